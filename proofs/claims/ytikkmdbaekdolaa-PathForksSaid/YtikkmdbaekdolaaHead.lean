/- package head: Decode, for all bytes. -/
import Derived.Test.YtikkmdbaekdolaaNewAny
import Derived.Test.YtikkmdbaekdolaaHeadIs
namespace Go.Proofs.Ytikkmdbaekdolaa
open Go.RowKit Go.Lib
set_option linter.unusedVariables false
set_option maxRecDepth 100000

/-- a packet's six cells -/
def DatAt (w : World) (D : Nat) (c0 c1 c2 c3 c4 c5 : Value) : Prop := w.heap[D]? = some (.cells #[c0, c1, c2, c3, c4, c5] 82 (0, 0))

theorem DatAt.lt {w : World} {D : Nat} {c0 c1 c2 c3 c4 c5 : Value} (h : DatAt w D c0 c1 c2 c3 c4 c5) : D < w.heap.size := (Array.getElem?_eq_some_iff.1 h).1
theorem DatAt.cells {w : World} {D : Nat} {c0 c1 c2 c3 c4 c5 : Value} (h : DatAt w D c0 c1 c2 c3 c4 c5) :
    (w.cell? ⟨D, 0, none⟩ = some c0 ∧ w.cell? ⟨D, 1, none⟩ = some c1 ∧ w.cell? ⟨D, 2, none⟩ = some c2 ∧ w.cell? ⟨D, 3, none⟩ = some c3 ∧ w.cell? ⟨D, 4, none⟩ = some c4 ∧ w.cell? ⟨D, 5, none⟩ = some c5) ∧
    ∀ j, w.frozen? ⟨D, j, none⟩ = false := by
  refine ⟨?_, fun j => ?_⟩
  · unfold World.cell?
    rw [show w.heap[D]? = _ from h]
    exact ⟨rfl, rfl, rfl, rfl, rfl, rfl⟩
  · unfold World.frozen?
    rw [show w.heap[D]? = _ from h]
    simp
theorem DatAt.kept {w w' : World} {D : Nat} {c0 c1 c2 c3 c4 c5 : Value} (h : DatAt w D c0 c1 c2 c3 c4 c5) {p : Nat} (hp : D ≠ p) (k : Kept p w w') : DatAt w' D c0 c1 c2 c3 c4 c5 := by
  unfold DatAt
  rw [k D hp h.lt]
  exact h
theorem DatAt.belowB {w w' : World} {D B : Nat} {c0 c1 c2 c3 c4 c5 : Value} (h : DatAt w D c0 c1 c2 c3 c4 c5) (hD : D < B) (k : Below B w w') : DatAt w' D c0 c1 c2 c3 c4 c5 := by
  unfold DatAt
  rw [k.block D hD]
  exact h
theorem DatAt.noByte {w : World} {D : Nat} {k0 k1 k2 k3 k4 : IntKind} {a b c d e : Int} {v : Option Addr} {l m : Nat} (hk : k0 ≠ .u8 ∧ k1 ≠ .u8 ∧ k2 ≠ .u8 ∧ k3 ≠ .u8 ∧ k4 ≠ .u8) (h : DatAt w D (.int k0 a) (.int k1 b) (.int k2 c) (.int k3 d) (.int k4 e) (.slice v l m)) : ∀ j x, w.cell? ⟨D, j, none⟩ ≠ some (.int .u8 x) := by
  intro j x
  obtain ⟨h0, h1, h2, h3, h4⟩ := hk
  rw [cell_of_row w D j _ _ _ h]
  match j with
  | 0 => simp [h0]
  | 1 => simp [h1]
  | 2 => simp [h2]
  | 3 => simp [h3]
  | 4 => simp [h4]
  | 5 => simp
  | j + 6 => simp

theorem heap_set_self (w : World) (D i : Nat) (v : Value) (cs : Array Value) (t : TypeId) (fr : Nat × Nat) (h : w.heap[D]? = some (.cells cs t fr)) : (w.setCell ⟨D, i, none⟩ v).heap[D]? = some (.cells (cs.setIfInBounds i v) t fr) := by
  simp [World.setCell, Array.getElem?_modify, h]

theorem numHere (zs : List Int) (hb : ∀ x ∈ zs, 0 ≤ x ∧ x ≤ 255) (hlen : zs.length ≤ 140737488351232) : NumHere zs (numF zs).1 (numF zs).2.1 (numF zs).2.2 ∧ (numF zs).2.1 ≤ zs.length := by
  obtain ⟨N, K, e, hK, hF, hH, _⟩ := numSame zs zs 0 rfl hb (Nat.zero_le _) (by omega)
  rw [hF]
  exact ⟨hH, hK⟩
theorem numThere (bs : List Int) (at' : Nat) (hb : ∀ x ∈ bs, 0 ≤ x ∧ x ≤ 255) (hat : at' ≤ bs.length) (hlen : bs.length ≤ 140737488351232) : NumThere bs at' (numF (bs.drop at')).1 (numF (bs.drop at')).2.1 (numF (bs.drop at')).2.2 ∧ at' + (numF (bs.drop at')).2.1 ≤ bs.length := by
  obtain ⟨N, K, e, hK, hF, _, hT⟩ := numSame bs (bs.drop at') at' rfl (byte_drop hb _) hat (by omega)
  rw [List.length_drop] at hK
  rw [hF]
  exact ⟨hT, by simp only; omega⟩
theorem wordHere (zs : List Int) (hb : ∀ x ∈ zs, 0 ≤ x ∧ x ≤ 255) (hlen : zs.length ≤ 140737488351232) : WordHere zs (wordF zs).1 (wordF zs).2.1 (wordF zs).2.2 ∧ (wordF zs).2.1 ≤ zs.length := by
  obtain ⟨N, K, e, hK, hF, hH, _⟩ := wordSame zs zs 0 rfl hb (Nat.zero_le _) hlen
  rw [hF]
  exact ⟨hH, hK⟩
theorem wordThere (bs : List Int) (at' : Nat) (hb : ∀ x ∈ bs, 0 ≤ x ∧ x ≤ 255) (hat : at' ≤ bs.length) (hlen : bs.length ≤ 140737488351232) : WordThere bs at' (wordF (bs.drop at')).1 (wordF (bs.drop at')).2.1 (wordF (bs.drop at')).2.2 ∧ at' + (wordF (bs.drop at')).2.1 ≤ bs.length := by
  obtain ⟨N, K, e, hK, hF, _, hT⟩ := wordSame bs (bs.drop at') at' rfl (byte_drop hb _) hat hlen
  rw [List.length_drop] at hK
  rw [hF]
  exact ⟨hT, by simp only; omega⟩

def dataV (d : Dat) (v : Value) : Value := .agg #[.int .u64 d.pn, .int .u64 d.least, .int .u64 d.off, .int .u64 d.x, .int .i64 d.ecn, v]

theorem hEcn (e : Int) (w : World) :
    Calls Try.prog 136 #[.int .i64 e] w fun r w' => r = .returned (.bool (decide (1 ≤ e ∧ e ≤ 3))) ∧ w = w' := by
  by_cases h1 : e = 1
  · subst h1
    go_enter Try.func136, Try.ntmps136
    go_wp2_with fail
    go_ret
    exact ⟨rfl, rfl⟩
  by_cases h2 : e = 2
  · subst h2
    go_enter Try.func136, Try.ntmps136
    go_wp2_with fail
    go_ret
    exact ⟨rfl, rfl⟩
  by_cases h3 : e = 3
  · subst h3
    go_enter Try.func136, Try.ntmps136
    go_wp2_with fail
    go_ret
    exact ⟨rfl, rfl⟩
  have d1 : (e == 1) = false := by rw [beq_eq_false_iff_ne]; exact h1
  have d2 : (e == 2) = false := by rw [beq_eq_false_iff_ne]; exact h2
  have d3 : (e == 3) = false := by rw [beq_eq_false_iff_ne]; exact h3
  rw [show decide (1 ≤ e ∧ e ≤ 3) = false by rw [decide_eq_false_iff_not]; omega]
  go_enter Try.func136, Try.ntmps136
  go_wp2_with fail
  go_ret
  exact ⟨rfl, rfl⟩

set_option maxHeartbeats 8000000 in
theorem hDecode (bv : Value) (bs : List Int) (hb : ∀ x ∈ bs, 0 ≤ x ∧ x ≤ 255) (hlen : bs.length ≤ 140737488351232) (w : World) (hB : BodyAt w bv bs) (E : Int) (d : Dat) (hG : getF bs = (E, d)) :
    Calls Try.prog 102 #[bv] w fun e w' => ∃ v, e = .returned (.tuple #[dataV d v, .int .i64 E]) ∧ Below w.heap.size w w' ∧ BodyAt w' v d.body := by
  go_enter Try.func102, Try.ntmps102
  go_wp2_with fail
  refine (oNewAny bv bs hlen _ (hB.below ((Below.refl _ _).alloc (Nat.le_refl _) _))).mono ?_; rintro e' w1 ⟨p, rfl, hp, hp1, b1, R1⟩
  have H1 : DatAt w1 w.heap.size (.int .u64 0) (.int .u64 0) (.int .u64 0) (.int .u64 0) (.int .i64 0) (.slice none 0 0) := DatAt.belowB (show DatAt (w.alloc _) _ _ _ _ _ _ _ from heap_alloc_new w _) (by simp) b1
  have b01 : Below w.heap.size w w1 := ((Below.refl _ _).alloc (Nat.le_refl _) _).trans (b1.mono (by simp))
  rw [show (w.alloc (.cells #[.int .u64 0, .int .u64 0, .int .u64 0, .int .u64 0, .int .i64 0, .slice none 0 0] 82 (0, 0))).heap.size = w.heap.size + 1 by simp] at hp
  clear b1 hB
  obtain ⟨b0, hb0⟩ : ∃ n, n = w.heap.size := ⟨_, rfl⟩
  rw [← hb0] at hp H1
  rcases bs with _ | ⟨k, bs⟩
  · simp only [getF, Prod.mk.injEq] at hG
    obtain ⟨rfl, rfl⟩ := hG
    go_wp2_with fail
    refine (takeShort [] 1 (by simp) _ p R1).mono ?_; rintro e' w' ⟨rfl, rfl⟩
    obtain ⟨⟨a0, a1, a2, a3, a4, a5⟩, fz⟩ := H1.cells
    have z0 := fz 0
    have z1 := fz 1
    have z2 := fz 2
    have z3 := fz 3
    have z4 := fz 4
    have z5 := fz 5
    rw [hb0] at a0 a1 a2 a3 a4 a5 z0 z1 z2 z3 z4 z5
    go_wp2_with fail
    refine bodyPost_ret (v := .tuple #[.agg #[.int .u64 0, .int .u64 0, .int .u64 0, .int .u64 0, .int .i64 0, .slice none 0 0], .int .i64 2]) (by simp [results, Try.results102, go_sem, a0, a1, a2, a3, a4, a5]) rfl ⟨.slice none 0 0, rfl, by repeat (first | with_reducible exact b01 | with_reducible refine Below.setCell ?_ (by first | (simp; done) | (simp; omega) | omega) _), .inl ⟨none, 0, rfl, fun _ => rfl, rfl⟩⟩
  have hk := hb k (by simp)
  have hz : ∀ x ∈ bs, 0 ≤ x ∧ x ≤ 255 := fun x hx => hb x (by simp [hx])
  simp only [List.length_cons] at hlen
  go_wp2_with fail
  refine (takeHere (k :: bs) 1 (by omega) (by simp) (by simp only [List.length_cons]; omega) _ p R1).mono ?_; rintro e' w2 ⟨q, qc, rfl, BQ, b2, R2, _⟩
  have R2 : RdAt w2 p bs := R2
  have H2 := H1.belowB (by omega) b2
  have b02 : Below w.heap.size w w2 := b01.trans (b2.mono (by omega))
  have ck : w2.cell? ⟨q, 0, none⟩ = some (.int .u8 k) := by simpa using BQ.at 0 k rfl
  have p2 := R2.1
  clear BQ b2 R1 H1 b01 hp1
  by_cases hk1 : k = 1
  case neg =>
    rw [getF, if_neg hk1, Prod.mk.injEq] at hG
    obtain ⟨rfl, rfl⟩ := hG
    have hd : (k != 1) = true := by rw [bne_iff_ne]; exact hk1
    obtain ⟨⟨a0, a1, a2, a3, a4, a5⟩, fz⟩ := H2.cells
    have z0 := fz 0
    have z1 := fz 1
    have z2 := fz 2
    have z3 := fz 3
    have z4 := fz 4
    have z5 := fz 5
    rw [hb0] at a0 a1 a2 a3 a4 a5 z0 z1 z2 z3 z4 z5
    go_wp2_with fail
    refine bodyPost_ret (v := .tuple #[.agg #[.int .u64 0, .int .u64 0, .int .u64 0, .int .u64 0, .int .i64 0, .slice none 0 0], .int .i64 4]) (by simp [results, Try.results102, go_sem, a0, a1, a2, a3, a4, a5]) rfl ⟨.slice none 0 0, rfl, by repeat (first | with_reducible exact b02 | with_reducible refine Below.setCell ?_ (by first | (simp; done) | (simp; omega) | omega) _), .inl ⟨none, 0, rfl, fun _ => rfl, rfl⟩⟩
  subst hk1
  rw [getF, if_pos rfl] at hG
  go_wp2_with fail
  obtain ⟨w3, hw3⟩ : ∃ w3, w3 = w2.alloc (.cells #[.int .u64 0, .int .u64 0, .int .u64 0, .int .u64 0, .int .i64 0, .slice none 0 0] 82 (0, 0)) := ⟨_, rfl⟩
  have b3 : Below w2.heap.size w2 w3 := by rw [hw3]; exact (Below.refl _ _).alloc (Nat.le_refl _) _
  have b03 : Below w.heap.size w w3 := b02.trans (b3.mono b02.size)
  have R3 := R2.below b3
  have H3 := H2.belowB H2.lt b3
  have D3 : DatAt w3 w2.heap.size (.int .u64 0) (.int .u64 0) (.int .u64 0) (.int .u64 0) (.int .i64 0) (.slice none 0 0) := by rw [hw3]; exact heap_alloc_new w2 _
  rw [← hw3]
  clear hw3 b3 R2 H2 ck b02
  obtain ⟨D, hD⟩ : ∃ n, n = w2.heap.size := ⟨_, rfl⟩
  rw [← hD] at p2 D3
  rw [← hD]
  clear hD
  have hpD : p ≠ D := by omega
  have hDp : D ≠ p := by omega
  have hbD : b0 ≠ D := by omega
  have hDb : D ≠ b0 := by omega
  have hpb : b0 < p := by omega
  have hwD : w.heap.size ≠ D := by omega
  have hDw : D ≠ w.heap.size := by omega
  rcases bs with _ | ⟨c, zs⟩
  · rw [get0, Prod.mk.injEq] at hG
    obtain ⟨rfl, rfl⟩ := hG
    refine (takeShort [] 1 (by simp) _ p R3).mono ?_; rintro e' w' ⟨rfl, rfl⟩
    obtain ⟨⟨a0, a1, a2, a3, a4, a5⟩, fz⟩ := H3.cells
    have z0 := fz 0
    have z1 := fz 1
    have z2 := fz 2
    have z3 := fz 3
    have z4 := fz 4
    have z5 := fz 5
    rw [hb0] at a0 a1 a2 a3 a4 a5 z0 z1 z2 z3 z4 z5
    go_wp2_with fail
    refine bodyPost_ret (v := .tuple #[.agg #[.int .u64 0, .int .u64 0, .int .u64 0, .int .u64 0, .int .i64 0, .slice none 0 0], .int .i64 2]) (by simp [results, Try.results102, go_sem, a0, a1, a2, a3, a4, a5]) rfl ⟨.slice none 0 0, rfl, by repeat (first | with_reducible exact b03 | with_reducible refine Below.setCell ?_ (by first | (simp; done) | (simp; omega) | omega) _), .inl ⟨none, 0, rfl, fun _ => rfl, rfl⟩⟩
  have hc := hz c (by simp)
  have z0 : ∀ x ∈ zs, 0 ≤ x ∧ x ≤ 255 := fun x hx => hz x (by simp [hx])
  simp only [List.length_cons] at hlen
  refine (takeHere (c :: zs) 1 (by omega) (by simp) (by simp only [List.length_cons]; omega) _ p R3).mono ?_; rintro e' w4 ⟨q4, qc4, rfl, BQ, b4, R4, K4, _⟩
  have R4 : RdAt w4 p zs := R4
  have H4 := H3.belowB hpb b4
  have D4 := D3.kept hDp K4
  have b04 : Below w.heap.size w w4 := b03.trans (b4.mono (by omega))
  have ck : w4.cell? ⟨q4, 0, none⟩ = some (.int .u8 c) := by simpa using BQ.at 0 c rfl
  clear BQ b4 R3 H3 D3 b03 K4
  obtain ⟨⟨d0, d1, d2, d3, d4, d5⟩, dz⟩ := D4.cells
  have y4 := dz 4
  obtain ⟨⟨a0, a1, a2, a3, a4, a5⟩, fz⟩ := H4.cells
  have x0 := fz 0
  have x1 := fz 1
  have x2 := fz 2
  have x3 := fz 3
  have x4 := fz 4
  have x5 := fz 5
  rw [hb0] at a0 a1 a2 a3 a4 a5 x0 x1 x2 x3 x4 x5
  go_wp2_with fail
  refine (hEcn c _).mono ?_; rintro e' w' ⟨rfl, rfl⟩
  rw [get0] at hG
  by_cases hc3 : 1 ≤ c ∧ c ≤ 3
  case neg =>
    rw [if_neg hc3, Prod.mk.injEq] at hG
    obtain ⟨rfl, rfl⟩ := hG
    rw [decide_eq_false hc3]
    go_wp2_with fail
    refine bodyPost_ret (v := .tuple #[.agg #[.int .u64 0, .int .u64 0, .int .u64 0, .int .u64 0, .int .i64 0, .slice none 0 0], .int .i64 5]) (by simp [results, Try.results102, go_sem, a0, a1, a2, a3, a4, a5]) rfl ⟨.slice none 0 0, rfl, by repeat (first | with_reducible exact b04 | with_reducible refine Below.setCell ?_ (by first | (simp; done) | (simp; omega) | omega) _), .inl ⟨none, 0, rfl, fun _ => rfl, rfl⟩⟩
  rw [if_pos hc3] at hG
  rw [decide_eq_true hc3]
  go_wp2_with fail
  obtain ⟨w5, hw5⟩ : ∃ w5, w5 = w4.setCell ⟨D, 4, none⟩ (.int .i64 c) := ⟨_, rfl⟩
  have R5 := RdAt.set R4 (⟨D, 4, none⟩ : Addr) hDp (D4.noByte (by decide)) (.int .i64 c)
  rw [← hw5] at R5
  have H5 : DatAt w5 b0 (.int .u64 0) (.int .u64 0) (.int .u64 0) (.int .u64 0) (.int .i64 0) (.slice none 0 0) := by unfold DatAt; rw [hw5, kept_set _ _ _ _ hbD]; exact H4
  have D5 : DatAt w5 D (.int .u64 0) (.int .u64 0) (.int .u64 0) (.int .u64 0) (.int .i64 c) (.slice none 0 0) := by rw [hw5]; exact heap_set_self _ _ _ _ _ _ _ D4
  have b05 : Below w.heap.size w w5 := by rw [hw5]; exact Below.setCell b04 (by simp; omega) _
  rw [← hw5]
  clear d0 d1 d2 d3 d4 d5 dz y4 a0 a1 a2 a3 a4 a5 fz x0 x1 x2 x3 x4 x5 ck
  clear hw5 R4 H4 D4 b04
  obtain ⟨hH, hK⟩ := numHere zs z0 (by omega)
  have hZ := numF_zero zs z0
  refine (hH _ p R5).mono ?_; rintro e' w6 ⟨rfl, b6, R6, K6⟩
  have H6 := H5.belowB hpb b6
  have D6 := D5.kept hDp K6
  have b06 : Below w.heap.size w w6 := b05.trans (b6.mono (by omega))
  clear hH b6 K6 R5 H5 D5 b05
  rw [get1] at hG
  obtain ⟨⟨d0, d1, d2, d3, d4, d5⟩, dz⟩ := D6.cells
  have y0 := dz 0
  obtain ⟨⟨a0, a1, a2, a3, a4, a5⟩, fz⟩ := H6.cells
  have x0 := fz 0
  have x1 := fz 1
  have x2 := fz 2
  have x3 := fz 3
  have x4 := fz 4
  have x5 := fz 5
  rw [hb0] at a0 a1 a2 a3 a4 a5 x0 x1 x2 x3 x4 x5
  by_cases he : (numF zs).2.2 = 0
  case neg =>
    rw [if_neg he, Prod.mk.injEq] at hG
    obtain ⟨hE, rfl⟩ := hG
    have hd : ((numF zs).2.2 != 0) = true := by rw [bne_iff_ne]; exact he
    clear hZ hK
    generalize (numF zs).2.2 = er at *
    generalize (numF zs).1 = N at *
    subst hE
    go_wp2_with fail
    refine bodyPost_ret (v := .tuple #[.agg #[.int .u64 0, .int .u64 0, .int .u64 0, .int .u64 0, .int .i64 0, .slice none 0 0], .int .i64 er]) (by simp [results, Try.results102, go_sem, a0, a1, a2, a3, a4, a5]) rfl ⟨.slice none 0 0, rfl, by repeat (first | with_reducible exact b06 | with_reducible refine Below.setCell ?_ (by first | (simp; done) | (simp; omega) | omega) _), .inl ⟨none, 0, rfl, fun _ => rfl, rfl⟩⟩
  rw [if_pos he] at hG
  rw [he]
  obtain ⟨np, hnp⟩ : ∃ n, n = (numF zs).1 := ⟨_, rfl⟩
  obtain ⟨ps, hps⟩ : ∃ l, l = zs.drop (numF zs).2.1 := ⟨_, rfl⟩
  have zp : ∀ x ∈ ps, 0 ≤ x ∧ x ≤ 255 := by rw [hps]; exact byte_drop z0 _
  have lp : ps.length ≤ 140737488351232 := by rw [hps, List.length_drop]; omega
  have hZ1 := (hZ he).1
  rw [← hnp, ← hps] at hG
  rw [← hps] at R6
  rw [← hnp] at hZ1
  rw [← hnp]
  clear hZ he hK hps hnp
  have hp64 := hZ1
  clear hZ1
  go_wp2_with fail
  obtain ⟨w7, hw7⟩ : ∃ w7, w7 = w6.setCell ⟨D, 0, none⟩ (.int .u64 np) := ⟨_, rfl⟩
  have R7 := RdAt.set R6 (⟨D, 0, none⟩ : Addr) hDp (D6.noByte (by decide)) (.int .u64 np)
  rw [← hw7] at R7
  have H7 : DatAt w7 b0 (.int .u64 0) (.int .u64 0) (.int .u64 0) (.int .u64 0) (.int .i64 0) (.slice none 0 0) := by unfold DatAt; rw [hw7, kept_set _ _ _ _ hbD]; exact H6
  have D7 : DatAt w7 D (.int .u64 np) (.int .u64 0) (.int .u64 0) (.int .u64 0) (.int .i64 c) (.slice none 0 0) := by rw [hw7]; exact heap_set_self _ _ _ _ _ _ _ D6
  have b07 : Below w.heap.size w w7 := by rw [hw7]; exact Below.setCell b06 (by simp; omega) _
  rw [← hw7]
  clear d0 d1 d2 d3 d4 d5 dz a0 a1 a2 a3 a4 a5 fz x0 x1 x2 x3 x4 x5
  clear y0
  clear hw7 R6 H6 D6 b06
  obtain ⟨hH, hK⟩ := numHere ps zp (by omega)
  have hZ := numF_zero ps zp
  refine (hH _ p R7).mono ?_; rintro e' w8 ⟨rfl, b8, R8, K8⟩
  have H8 := H7.belowB hpb b8
  have D8 := D7.kept hDp K8
  have b08 : Below w.heap.size w w8 := b07.trans (b8.mono (by omega))
  clear hH b8 K8 R7 H7 D7 b07
  rw [get2] at hG
  obtain ⟨⟨d0, d1, d2, d3, d4, d5⟩, dz⟩ := D8.cells
  have y1 := dz 1
  obtain ⟨⟨a0, a1, a2, a3, a4, a5⟩, fz⟩ := H8.cells
  have x0 := fz 0
  have x1 := fz 1
  have x2 := fz 2
  have x3 := fz 3
  have x4 := fz 4
  have x5 := fz 5
  rw [hb0] at a0 a1 a2 a3 a4 a5 x0 x1 x2 x3 x4 x5
  by_cases he : (numF ps).2.2 = 0
  case neg =>
    rw [if_neg he, Prod.mk.injEq] at hG
    obtain ⟨hE, rfl⟩ := hG
    have hd : ((numF ps).2.2 != 0) = true := by rw [bne_iff_ne]; exact he
    clear hZ hK
    generalize (numF ps).2.2 = er at *
    generalize (numF ps).1 = N at *
    subst hE
    go_wp2_with fail
    refine bodyPost_ret (v := .tuple #[.agg #[.int .u64 0, .int .u64 0, .int .u64 0, .int .u64 0, .int .i64 0, .slice none 0 0], .int .i64 er]) (by simp [results, Try.results102, go_sem, a0, a1, a2, a3, a4, a5]) rfl ⟨.slice none 0 0, rfl, by repeat (first | with_reducible exact b08 | with_reducible refine Below.setCell ?_ (by first | (simp; done) | (simp; omega) | omega) _), .inl ⟨none, 0, rfl, fun _ => rfl, rfl⟩⟩
  rw [if_pos he] at hG
  rw [he]
  obtain ⟨nl, hnl⟩ : ∃ n, n = (numF ps).1 := ⟨_, rfl⟩
  obtain ⟨ls, hls⟩ : ∃ l, l = ps.drop (numF ps).2.1 := ⟨_, rfl⟩
  have zl : ∀ x ∈ ls, 0 ≤ x ∧ x ≤ 255 := by rw [hls]; exact byte_drop zp _
  have ll : ls.length ≤ 140737488351232 := by rw [hls, List.length_drop]; omega
  have hZ1 := (hZ he).1
  rw [← hnl, ← hls] at hG
  rw [← hls] at R8
  rw [← hnl] at hZ1
  rw [← hnl]
  clear hZ he hK hls hnl
  have hl64 := hZ1
  clear hZ1
  by_cases hx : nl ≤ np
  case neg =>
    rw [if_neg hx, Prod.mk.injEq] at hG
    obtain ⟨rfl, rfl⟩ := hG
    have hd : decide (np < nl) = true := by rw [decide_eq_true_iff]; omega
    go_wp2_with fail
    refine bodyPost_ret (v := .tuple #[.agg #[.int .u64 0, .int .u64 0, .int .u64 0, .int .u64 0, .int .i64 0, .slice none 0 0], .int .i64 5]) (by simp [results, Try.results102, go_sem, a0, a1, a2, a3, a4, a5]) rfl ⟨.slice none 0 0, rfl, by repeat (first | with_reducible exact b08 | with_reducible refine Below.setCell ?_ (by first | (simp; done) | (simp; omega) | omega) _), .inl ⟨none, 0, rfl, fun _ => rfl, rfl⟩⟩
  rw [if_pos hx] at hG
  have hd : decide (np < nl) = false := by rw [decide_eq_false_iff_not]; omega
  go_wp2_with fail
  obtain ⟨w9, hw9⟩ : ∃ w9, w9 = w8.setCell ⟨D, 1, none⟩ (.int .u64 nl) := ⟨_, rfl⟩
  have R9 := RdAt.set R8 (⟨D, 1, none⟩ : Addr) hDp (D8.noByte (by decide)) (.int .u64 nl)
  rw [← hw9] at R9
  have H9 : DatAt w9 b0 (.int .u64 0) (.int .u64 0) (.int .u64 0) (.int .u64 0) (.int .i64 0) (.slice none 0 0) := by unfold DatAt; rw [hw9, kept_set _ _ _ _ hbD]; exact H8
  have D9 : DatAt w9 D (.int .u64 np) (.int .u64 nl) (.int .u64 0) (.int .u64 0) (.int .i64 c) (.slice none 0 0) := by rw [hw9]; exact heap_set_self _ _ _ _ _ _ _ D8
  have b09 : Below w.heap.size w w9 := by rw [hw9]; exact Below.setCell b08 (by simp; omega) _
  rw [← hw9]
  clear d0 d1 d2 d3 d4 d5 dz a0 a1 a2 a3 a4 a5 fz x0 x1 x2 x3 x4 x5
  clear y1
  clear hw9 R8 H8 D8 b08
  clear hx hd
  obtain ⟨hH, hK⟩ := numHere ls zl (by omega)
  have hZ := numF_zero ls zl
  refine (hH _ p R9).mono ?_; rintro e' w10 ⟨rfl, b10, R10, K10⟩
  have H10 := H9.belowB hpb b10
  have D10 := D9.kept hDp K10
  have b010 : Below w.heap.size w w10 := b09.trans (b10.mono (by omega))
  clear hH b10 K10 R9 H9 D9 b09
  rw [get3] at hG
  obtain ⟨⟨d0, d1, d2, d3, d4, d5⟩, dz⟩ := D10.cells
  have y2 := dz 2
  obtain ⟨⟨a0, a1, a2, a3, a4, a5⟩, fz⟩ := H10.cells
  have x0 := fz 0
  have x1 := fz 1
  have x2 := fz 2
  have x3 := fz 3
  have x4 := fz 4
  have x5 := fz 5
  rw [hb0] at a0 a1 a2 a3 a4 a5 x0 x1 x2 x3 x4 x5
  by_cases he : (numF ls).2.2 = 0
  case neg =>
    rw [if_neg he, Prod.mk.injEq] at hG
    obtain ⟨hE, rfl⟩ := hG
    have hd : ((numF ls).2.2 != 0) = true := by rw [bne_iff_ne]; exact he
    clear hZ hK
    generalize (numF ls).2.2 = er at *
    generalize (numF ls).1 = N at *
    subst hE
    go_wp2_with fail
    refine bodyPost_ret (v := .tuple #[.agg #[.int .u64 0, .int .u64 0, .int .u64 0, .int .u64 0, .int .i64 0, .slice none 0 0], .int .i64 er]) (by simp [results, Try.results102, go_sem, a0, a1, a2, a3, a4, a5]) rfl ⟨.slice none 0 0, rfl, by repeat (first | with_reducible exact b010 | with_reducible refine Below.setCell ?_ (by first | (simp; done) | (simp; omega) | omega) _), .inl ⟨none, 0, rfl, fun _ => rfl, rfl⟩⟩
  rw [if_pos he] at hG
  rw [he]
  obtain ⟨no, hno⟩ : ∃ n, n = (numF ls).1 := ⟨_, rfl⟩
  obtain ⟨os, hos⟩ : ∃ l, l = ls.drop (numF ls).2.1 := ⟨_, rfl⟩
  have zo : ∀ x ∈ os, 0 ≤ x ∧ x ≤ 255 := by rw [hos]; exact byte_drop zl _
  have lo : os.length ≤ 140737488351232 := by rw [hos, List.length_drop]; omega
  have hZ1 := (hZ he).1
  rw [← hno, ← hos] at hG
  rw [← hos] at R10
  rw [← hno] at hZ1
  rw [← hno]
  clear hZ he hK hos hno
  have ho64 := hZ1
  clear hZ1
  go_wp2_with fail
  obtain ⟨w11, hw11⟩ : ∃ w11, w11 = w10.setCell ⟨D, 2, none⟩ (.int .u64 no) := ⟨_, rfl⟩
  have R11 := RdAt.set R10 (⟨D, 2, none⟩ : Addr) hDp (D10.noByte (by decide)) (.int .u64 no)
  rw [← hw11] at R11
  have H11 : DatAt w11 b0 (.int .u64 0) (.int .u64 0) (.int .u64 0) (.int .u64 0) (.int .i64 0) (.slice none 0 0) := by unfold DatAt; rw [hw11, kept_set _ _ _ _ hbD]; exact H10
  have D11 : DatAt w11 D (.int .u64 np) (.int .u64 nl) (.int .u64 no) (.int .u64 0) (.int .i64 c) (.slice none 0 0) := by rw [hw11]; exact heap_set_self _ _ _ _ _ _ _ D10
  have b011 : Below w.heap.size w w11 := by rw [hw11]; exact Below.setCell b010 (by simp; omega) _
  rw [← hw11]
  clear d0 d1 d2 d3 d4 d5 dz a0 a1 a2 a3 a4 a5 fz x0 x1 x2 x3 x4 x5
  clear y2
  clear hw11 R10 H10 D10 b010
  obtain ⟨hH, hK⟩ := wordHere os zo (by omega)
  have hZ := wordF_zero os zo
  refine (hH _ p R11).mono ?_; rintro e' w12 ⟨rfl, b12, R12, K12⟩
  have H12 := H11.belowB hpb b12
  have D12 := D11.kept hDp K12
  have b012 : Below w.heap.size w w12 := b011.trans (b12.mono (by omega))
  clear hH b12 K12 R11 H11 D11 b011
  rw [get4] at hG
  obtain ⟨⟨d0, d1, d2, d3, d4, d5⟩, dz⟩ := D12.cells
  have y3 := dz 3
  obtain ⟨⟨a0, a1, a2, a3, a4, a5⟩, fz⟩ := H12.cells
  have x0 := fz 0
  have x1 := fz 1
  have x2 := fz 2
  have x3 := fz 3
  have x4 := fz 4
  have x5 := fz 5
  rw [hb0] at a0 a1 a2 a3 a4 a5 x0 x1 x2 x3 x4 x5
  by_cases he : (wordF os).2.2 = 0
  case neg =>
    rw [if_neg he, Prod.mk.injEq] at hG
    obtain ⟨hE, rfl⟩ := hG
    have hd : ((wordF os).2.2 != 0) = true := by rw [bne_iff_ne]; exact he
    clear hZ hK
    generalize (wordF os).2.2 = er at *
    generalize (wordF os).1 = N at *
    subst hE
    go_wp2_with fail
    refine bodyPost_ret (v := .tuple #[.agg #[.int .u64 0, .int .u64 0, .int .u64 0, .int .u64 0, .int .i64 0, .slice none 0 0], .int .i64 er]) (by simp [results, Try.results102, go_sem, a0, a1, a2, a3, a4, a5]) rfl ⟨.slice none 0 0, rfl, by repeat (first | with_reducible exact b012 | with_reducible refine Below.setCell ?_ (by first | (simp; done) | (simp; omega) | omega) _), .inl ⟨none, 0, rfl, fun _ => rfl, rfl⟩⟩
  rw [if_pos he] at hG
  rw [he]
  obtain ⟨nx, hnx⟩ : ∃ n, n = (wordF os).1 := ⟨_, rfl⟩
  obtain ⟨xs, hxs⟩ : ∃ l, l = os.drop (wordF os).2.1 := ⟨_, rfl⟩
  have zx : ∀ x ∈ xs, 0 ≤ x ∧ x ≤ 255 := by rw [hxs]; exact byte_drop zo _
  have lx : xs.length ≤ 140737488351232 := by rw [hxs, List.length_drop]; omega
  have hZ1 := (hZ he).1
  rw [← hnx, ← hxs] at hG
  rw [← hxs] at R12
  rw [← hnx] at hZ1
  rw [← hnx]
  clear hZ he hK hxs hnx
  have hx64 := hZ1
  clear hZ1
  go_wp2_with fail
  obtain ⟨w13, hw13⟩ : ∃ w13, w13 = w12.setCell ⟨D, 3, none⟩ (.int .u64 nx) := ⟨_, rfl⟩
  have R13 := RdAt.set R12 (⟨D, 3, none⟩ : Addr) hDp (D12.noByte (by decide)) (.int .u64 nx)
  rw [← hw13] at R13
  have H13 : DatAt w13 b0 (.int .u64 0) (.int .u64 0) (.int .u64 0) (.int .u64 0) (.int .i64 0) (.slice none 0 0) := by unfold DatAt; rw [hw13, kept_set _ _ _ _ hbD]; exact H12
  have D13 : DatAt w13 D (.int .u64 np) (.int .u64 nl) (.int .u64 no) (.int .u64 nx) (.int .i64 c) (.slice none 0 0) := by rw [hw13]; exact heap_set_self _ _ _ _ _ _ _ D12
  have b013 : Below w.heap.size w w13 := by rw [hw13]; exact Below.setCell b012 (by simp; omega) _
  rw [← hw13]
  clear d0 d1 d2 d3 d4 d5 dz a0 a1 a2 a3 a4 a5 fz x0 x1 x2 x3 x4 x5
  clear y3
  clear hw13 R12 H12 D12 b012
  obtain ⟨hH, hK⟩ := numHere xs zx (by omega)
  have hZ := numF_zero xs zx
  refine (hH _ p R13).mono ?_; rintro e' w14 ⟨rfl, b14, R14, K14⟩
  have H14 := H13.belowB hpb b14
  have D14 := D13.kept hDp K14
  have b014 : Below w.heap.size w w14 := b013.trans (b14.mono (by omega))
  clear hH b14 K14 R13 H13 D13 b013
  rw [get5] at hG
  obtain ⟨⟨d0, d1, d2, d3, d4, d5⟩, dz⟩ := D14.cells
  obtain ⟨⟨a0, a1, a2, a3, a4, a5⟩, fz⟩ := H14.cells
  have x0 := fz 0
  have x1 := fz 1
  have x2 := fz 2
  have x3 := fz 3
  have x4 := fz 4
  have x5 := fz 5
  rw [hb0] at a0 a1 a2 a3 a4 a5 x0 x1 x2 x3 x4 x5
  by_cases he : (numF xs).2.2 = 0
  case neg =>
    rw [if_neg he, Prod.mk.injEq] at hG
    obtain ⟨hE, rfl⟩ := hG
    have hd : ((numF xs).2.2 != 0) = true := by rw [bne_iff_ne]; exact he
    clear hZ hK
    generalize (numF xs).2.2 = er at *
    generalize (numF xs).1 = N at *
    subst hE
    go_wp2_with fail
    refine bodyPost_ret (v := .tuple #[.agg #[.int .u64 0, .int .u64 0, .int .u64 0, .int .u64 0, .int .i64 0, .slice none 0 0], .int .i64 er]) (by simp [results, Try.results102, go_sem, a0, a1, a2, a3, a4, a5]) rfl ⟨.slice none 0 0, rfl, by repeat (first | with_reducible exact b014 | with_reducible refine Below.setCell ?_ (by first | (simp; done) | (simp; omega) | omega) _), .inl ⟨none, 0, rfl, fun _ => rfl, rfl⟩⟩
  rw [if_pos he] at hG
  rw [he]
  obtain ⟨nm, hnm⟩ : ∃ n, n = (numF xs).1 := ⟨_, rfl⟩
  obtain ⟨ms, hms⟩ : ∃ l, l = xs.drop (numF xs).2.1 := ⟨_, rfl⟩
  have zm : ∀ x ∈ ms, 0 ≤ x ∧ x ≤ 255 := by rw [hms]; exact byte_drop zx _
  have lm : ms.length ≤ 140737488351232 := by rw [hms, List.length_drop]; omega
  have hZ1 := (hZ he).1
  rw [← hnm, ← hms] at hG
  rw [← hms] at R14
  rw [← hnm] at hZ1
  rw [← hnm]
  clear hZ he hK hms hnm
  have hm64 := hZ1
  clear hZ1
  by_cases hx : 1 ≤ nm ∧ nm ≤ 1500 ∧ no ≤ 4611686018427387903 - nm
  case neg =>
    rw [if_neg hx, Prod.mk.injEq] at hG
    obtain ⟨rfl, rfl⟩ := hG
    rcases (by omega : nm < 1 ∨ (1 ≤ nm ∧ 1500 < nm) ∨ (1 ≤ nm ∧ nm ≤ 1500 ∧ 4611686018427387903 - nm < no)) with h | ⟨h, h'⟩ | ⟨h, h', h2⟩
    · go_wp2_with fail
      refine bodyPost_ret (v := .tuple #[.agg #[.int .u64 0, .int .u64 0, .int .u64 0, .int .u64 0, .int .i64 0, .slice none 0 0], .int .i64 5]) (by simp [results, Try.results102, go_sem, a0, a1, a2, a3, a4, a5]) rfl ⟨.slice none 0 0, rfl, by repeat (first | with_reducible exact b014 | with_reducible refine Below.setCell ?_ (by first | (simp; done) | (simp; omega) | omega) _), .inl ⟨none, 0, rfl, fun _ => rfl, rfl⟩⟩
    · go_wp2_with fail
      refine bodyPost_ret (v := .tuple #[.agg #[.int .u64 0, .int .u64 0, .int .u64 0, .int .u64 0, .int .i64 0, .slice none 0 0], .int .i64 5]) (by simp [results, Try.results102, go_sem, a0, a1, a2, a3, a4, a5]) rfl ⟨.slice none 0 0, rfl, by repeat (first | with_reducible exact b014 | with_reducible refine Below.setCell ?_ (by first | (simp; done) | (simp; omega) | omega) _), .inl ⟨none, 0, rfl, fun _ => rfl, rfl⟩⟩
    · go_wp2_with fail
      refine bodyPost_ret (v := .tuple #[.agg #[.int .u64 0, .int .u64 0, .int .u64 0, .int .u64 0, .int .i64 0, .slice none 0 0], .int .i64 5]) (by simp [results, Try.results102, go_sem, a0, a1, a2, a3, a4, a5]) rfl ⟨.slice none 0 0, rfl, by repeat (first | with_reducible exact b014 | with_reducible refine Below.setCell ?_ (by first | (simp; done) | (simp; omega) | omega) _), .inl ⟨none, 0, rfl, fun _ => rfl, rfl⟩⟩
  rw [if_pos hx] at hG
  obtain ⟨x1', x2', x3'⟩ := hx
  obtain ⟨m, rfl⟩ : ∃ m : Nat, nm = (m : Int) := ⟨nm.toNat, by omega⟩
  have hm1 : 1 ≤ m := by omega
  go_wp2_with fail
  clear d0 d1 d2 d3 d4 d5 dz a0 a1 a2 a3 a4 a5 fz x0 x1 x2 x3 x4 x5
  rw [get6] at hG
  by_cases hs : (ms.length : Int) < m
  · rw [if_pos hs, Prod.mk.injEq] at hG
    obtain ⟨rfl, rfl⟩ := hG
    refine (takeShort ms m hs _ p R14).mono ?_; rintro e' w' ⟨rfl, rfl⟩
    obtain ⟨⟨d0, d1, d2, d3, d4, d5⟩, dz⟩ := D14.cells
    have y5 := dz 5
    obtain ⟨⟨a0, a1, a2, a3, a4, a5⟩, fz⟩ := H14.cells
    have x0 := fz 0
    have x1 := fz 1
    have x2 := fz 2
    have x3 := fz 3
    have x4 := fz 4
    have x5 := fz 5
    rw [hb0] at a0 a1 a2 a3 a4 a5 x0 x1 x2 x3 x4 x5
    go_wp2_with fail
    refine bodyPost_ret (v := .tuple #[.agg #[.int .u64 0, .int .u64 0, .int .u64 0, .int .u64 0, .int .i64 0, .slice none 0 0], .int .i64 2]) (by simp [results, Try.results102, go_sem, a0, a1, a2, a3, a4, a5]) rfl ⟨.slice none 0 0, rfl, by repeat (first | with_reducible exact b014 | with_reducible refine Below.setCell ?_ (by first | (simp; done) | (simp; omega) | omega) _), .inl ⟨none, 0, rfl, fun _ => rfl, rfl⟩⟩
  rw [if_neg hs] at hG
  refine (takeHere ms m hm1 (by omega) lm _ p R14).mono ?_; rintro e' w15 ⟨q, qc, rfl, BQ, bb, RR, KK, hqc1, hqc2⟩
  have H15 := H14.belowB hpb bb
  have D15 := D14.kept hDp KK
  have b015 : Below w.heap.size w w15 := b014.trans (bb.mono (by omega))
  have hqm : (ms.take m).length = m := by rw [List.length_take]; omega
  have hqD : q ≠ D := fun e => by
    subst e
    exact D15.noByte (by decide) 0 _ (by simpa using BQ.2 0 (by omega))
  have hqb : q ≠ b0 := fun e => by
    subst e
    exact H15.noByte (by decide) 0 _ (by simpa using BQ.2 0 (by omega))
  obtain ⟨⟨d0, d1, d2, d3, d4, d5⟩, dz⟩ := D15.cells
  have y5 := dz 5
  obtain ⟨⟨a0, a1, a2, a3, a4, a5⟩, fz⟩ := H15.cells
  have x0 := fz 0
  have x1 := fz 1
  have x2 := fz 2
  have x3 := fz 3
  have x4 := fz 4
  have x5 := fz 5
  rw [hb0] at a0 a1 a2 a3 a4 a5 x0 x1 x2 x3 x4 x5
  go_wp2_with fail
  obtain ⟨w16, hw16⟩ : ∃ w16, w16 = w15.setCell ⟨D, 5, none⟩ (.slice (some ⟨q, 0, none⟩) m qc) := ⟨_, rfl⟩
  have R16 := RdAt.set RR (⟨D, 5, none⟩ : Addr) hDp (D15.noByte (by decide)) (.slice (some ⟨q, 0, none⟩) m qc)
  rw [← hw16] at R16
  have H16 : DatAt w16 b0 (.int .u64 0) (.int .u64 0) (.int .u64 0) (.int .u64 0) (.int .i64 0) (.slice none 0 0) := by unfold DatAt; rw [hw16, kept_set _ _ _ _ hbD]; exact H15
  have D16 : DatAt w16 D (.int .u64 np) (.int .u64 nl) (.int .u64 no) (.int .u64 nx) (.int .i64 c) (.slice (some ⟨q, 0, none⟩) m qc) := by rw [hw16]; exact heap_set_self _ _ _ _ _ _ _ D15
  have b016 : Below w.heap.size w w16 := by rw [hw16]; exact Below.setCell b015 (by simp; omega) _
  rw [← hw16]
  have BQ16 : BytesAt w16 q 0 (ms.take m) := ⟨by rw [hw16]; simpa using BQ.1, fun i hi => by rw [hw16, ← BQ.2 i hi]; exact World.cell?_setCell_other _ _ _ _ (by intro e; injection e with e1; omega)⟩
  clear d0 d1 d2 d3 d4 d5 dz a0 a1 a2 a3 a4 a5 fz x0 x1 x2 x3 x4 x5
  clear y5
  clear hw16 RR H15 D15 b015
  refine (leftHere _ _ p R16).mono ?_; rintro e' w' ⟨rfl, rfl⟩
  obtain ⟨⟨d0, d1, d2, d3, d4, d5⟩, dz⟩ := D16.cells
  obtain ⟨⟨a0, a1, a2, a3, a4, a5⟩, fz⟩ := H16.cells
  have x0 := fz 0
  have x1 := fz 1
  have x2 := fz 2
  have x3 := fz 3
  have x4 := fz 4
  have x5 := fz 5
  rw [hb0] at a0 a1 a2 a3 a4 a5 x0 x1 x2 x3 x4 x5
  obtain ⟨L, hL⟩ : ∃ L, (ms.drop m).length = L := ⟨_, rfl⟩
  have hL2 := hL
  rw [List.length_drop] at hL2
  rw [hL]
  by_cases hlong : (m : Int) < ms.length
  · rw [if_pos hlong, Prod.mk.injEq] at hG
    obtain ⟨rfl, rfl⟩ := hG
    have hL3 : (0 : Int) < (L : Int) := by omega
    go_wp2_with fail
    refine bodyPost_ret (v := .tuple #[.agg #[.int .u64 0, .int .u64 0, .int .u64 0, .int .u64 0, .int .i64 0, .slice none 0 0], .int .i64 3]) (by simp [results, Try.results102, go_sem, a0, a1, a2, a3, a4, a5]) rfl ⟨.slice none 0 0, rfl, by repeat (first | with_reducible exact b016 | with_reducible refine Below.setCell ?_ (by first | (simp; done) | (simp; omega) | omega) _), .inl ⟨none, 0, rfl, fun _ => rfl, rfl⟩⟩
  rw [if_neg hlong, Prod.mk.injEq] at hG
  obtain ⟨rfl, rfl⟩ := hG
  have hL3 : L = 0 := by omega
  subst hL3
  have hms : ms.take m = ms := List.take_of_length_le (by omega)
  rw [hms] at BQ16 hqm
  go_wp2_with fail
  refine bodyPost_ret (v := .tuple #[.agg #[.int .u64 np, .int .u64 nl, .int .u64 no, .int .u64 nx, .int .i64 c, .slice (some ⟨q, 0, none⟩) m qc], .int .i64 0]) (by simp [results, Try.results102, go_sem, a0, a1, a2, a3, a4, a5]) rfl ⟨.slice (some ⟨q, 0, none⟩) m qc, rfl, by repeat (first | with_reducible exact b016 | with_reducible refine Below.setCell ?_ (by first | (simp; done) | (simp; omega) | omega) _), .inr ⟨q, 0, qc, by rw [hqm], by omega, by omega, hqc2, by repeat (first | with_reducible exact BQ16 | with_reducible refine BytesAt.set ?_ _ (by simp; omega) _)⟩⟩

end Go.Proofs.Ytikkmdbaekdolaa
