/- Several texts one behind the other: Path6, Path13, Path14. -/
import Derived.Test.YtikkmdbaekdolaaPath5
import Derived.Lib.SlBytesConst
import Derived.Test.YtikkmdbaekdolaaPaC
/- the examples of the document, chapter 28: alive returns true. -/
namespace Go.Proofs.Ytikkmdbaekdolaa
open Go.RowKit Go.Lib
set_option linter.unusedVariables false
set_option maxRecDepth 100000

theorem fates2 {w : World} {g : Nat} (h : RowIs w g 119 #[.bool true, .bool false, .bool false, .int .u64 0, .bool false, .bool true, .bool false, .int .u64 9]) : FAt w g 0 [⟨true, false, false, 0⟩, ⟨false, true, false, 9⟩] := by
  refine ⟨h.lt, fun i hi => ?_⟩
  rcases (by simp at hi; omega : i = 0 ∨ i = 1) with rfl | rfl
  · exact ⟨h.cell 0, h.cell 1, h.cell 2, h.cell 3⟩
  · exact ⟨h.cell 4, h.cell 5, h.cell 6, h.cell 7⟩
theorem byte1 {w : World} {g : Nat} {b : Int} {t : TypeId} {fr : Nat × Nat} (h : w.heap[g]? = some (.cells #[.int .u8 b] t fr)) : BodyAt w (.slice (some ⟨g, 0, none⟩) 1 1) [b] :=
  .inr ⟨g, 0, 1, rfl, by simp, by simp, by omega, (Array.getElem?_eq_some_iff.1 h).1, fun i hi => by
    have : i = 0 := by simp at hi; omega
    subst this
    exact cell_of_row w g 0 _ _ _ h⟩
theorem map2 {l : List Itm} {a b : Int × List Int} (h : l.map pr = [a, b]) : ∃ d1 d2, l = [d1, d2] ∧ d1.at_ = a.1 ∧ d1.bs = a.2 ∧ d2.at_ = b.1 ∧ d2.bs = b.2 := by
  rcases l with _ | ⟨d1, _ | ⟨d2, _ | ⟨d3, l⟩⟩⟩
  · simp at h
  · simp at h
  · simp [pr] at h
    obtain ⟨rfl, rfl⟩ := h
    exact ⟨d1, d2, rfl, rfl, rfl, rfl, rfl⟩
  · simp at h

set_option maxHeartbeats 16000000 in
theorem alivePath (w : World) : Calls Try.prog 24 #[] w fun e w' => e = .returned (.bool true) ∧ Below w.heap.size w w' := by
  have kc := fun (w : World) (C : Array Value) (n c : Nat) => Lib.run_convert_bytes_const (P := Try.prog) w 44 5 C n c Try.underlying44 Try.underlying5
  go_enter Try.func24, Try.ntmps24
  go_wp2_with fail
  obtain ⟨w1, hw1⟩ : ∃ w1, w1 = w.alloc (.cells #[.bool true, .bool false, .bool false, .int .u64 0, .bool false, .bool true, .bool false, .int .u64 9] 119 (0, 0)) := ⟨_, rfl⟩
  have r1 : RowIs w1 w.heap.size 119 #[.bool true, .bool false, .bool false, .int .u64 0, .bool false, .bool true, .bool false, .int .u64 9] := by rw [hw1]; exact RowIs.mk (heap_alloc_new w _)
  have b1 : Below w.heap.size w w1 := by rw [hw1]; exact (Below.refl _ _).alloc (Nat.le_refl _) _
  rw [← hw1]
  clear hw1
  ((refine (pNew (fun _ => False) (some ⟨w.heap.size, 0, none⟩) 2 [⟨true, false, false, 0⟩, ⟨false, true, false, 9⟩] (fun h => by cases h) (by simp) w1 (fun _ h => h.elim) (.inr ⟨w.heap.size, 0, rfl, fates2 r1⟩)).mono ?_); rintro e' w2 ⟨P, xf, cf, rfl, b2, hP, PA⟩)
  have c2 := b1.trans (b2.mono b1.size)
  have PA := PA.chg (Chg.refl (fun _ => False) _) (fun h => h) (fun _ _ h => h) (fun _ _ h => h.elim) (ms' := fun g => g = P) (fun i _ h => .inr h) (fun i h => h.elim (fun h => h.elim) (fun h => h)) (fun g h => PA.msl g (.inr h))
  have kc1 := kc w2 #[.int .u8 97] 1 1
  have s2 := b1.size
  have hPl := PA.row.lt
  have hPw : w.heap.size ≤ P := by omega
  clear b2 r1
  go_wp2_with fail
  obtain ⟨wBa, hwBa⟩ : ∃ wB, wB = w2.alloc (.cells #[.int .u8 97] 5 (1, 2)) := ⟨_, rfl⟩
  have KBa : Chg (fun _ => False) w2 wBa := by rw [hwBa]; exact Chg.alloc _ _
  have PBa := PipeAt.same PA KBa
  have BBa : BodyF wBa (fun g => g = P) (.slice (some ⟨w2.heap.size, 0, none⟩) 1 1) [97] := ⟨by rw [hwBa]; exact byte1 (heap_alloc_new w2 _), fun _ g e => by
    have e' : w2.heap.size = g := by simpa [Value.ownBlock] using e
    subst e'; exact fun h => absurd (PipeAt.msl PA _ h) (Nat.lt_irrefl _)⟩
  rw [← hwBa]
  clear hwBa
  ((refine (pPut (fun g => g = P) P xf cf [⟨true, false, false, 0⟩, ⟨false, true, false, 9⟩] 0 (.slice none 0 0) [] _ 1 1 [97] 1 (by simp) (by simp) (Wlit (by omega)) (fun d hd => by simp at hd; rcases hd with rfl | rfl <;> exact Wlit (by simp)) (by simp) (by omega) (by simp) wBa PBa BBa).mono ?_); rintro e' wCa ⟨rfl, vCa, lCa, mCa, KCa, oCa, uCa, dCa, PCa, eCa⟩)
  have mw1 : ∀ g, mCa g → w.heap.size ≤ g := fun g h => (dCa g h).elim (fun h => by rw [h]; exact hPw) (fun h => by have := KBa.size; have := c2.size; omega)
  have cCa : Below w.heap.size w wCa := c2.trans (((KBa.mono (fun i _ h => h.elim)).trans KCa (ms := fun i => i = P) (fun i h => h.elim .inl (fun h => by cases h))).below c2.size (fun i h => by omega))
  have hl0 : lCa = [] := by
    have e : lCa.map pr = [] := eCa.trans (by kernel_rfl)
    simpa using e
  subst hl0
  obtain ⟨xa, ca, hva⟩ := own_slice PCa.own
  subst hva
  have kc2 := kc wCa #[.int .u8 98] 1 1
  have RCa := PCa.row
  clear kc1 eCa BBa PBa KBa KCa uCa oCa dCa PA
  go_wp2_with fail
  ((refine (pWaits P _ _ xa 0 ca (by omega) wCa RCa).mono ?_); rintro e' w' ⟨rfl, rfl⟩)
  go_wp2_with fail
  obtain ⟨wBb, hwBb⟩ : ∃ wB, wB = wCa.alloc (.cells #[.int .u8 98] 5 (1, 2)) := ⟨_, rfl⟩
  have KBb : Chg (fun _ => False) wCa wBb := by rw [hwBb]; exact Chg.alloc _ _
  have PBb := PipeAt.same PCa KBb
  have BBb : BodyF wBb mCa (.slice (some ⟨wCa.heap.size, 0, none⟩) 1 1) [98] := ⟨by rw [hwBb]; exact byte1 (heap_alloc_new wCa _), fun _ g e => by
    have e' : wCa.heap.size = g := by simpa [Value.ownBlock] using e
    subst e'; exact fun h => absurd (PipeAt.msl PCa _ h) (Nat.lt_irrefl _)⟩
  rw [← hwBb]
  clear hwBb
  ((refine (pPut mCa P xf cf [⟨true, false, false, 0⟩, ⟨false, true, false, 9⟩] 1 (.slice xa 0 ca) [] _ 1 1 [98] 1 (by simp) (by simp) (Wlit (by omega)) (fun d hd => by simp at hd; rcases hd with rfl | rfl <;> exact Wlit (by simp)) (by simp) (by omega) (by simp) wBb PBb BBb).mono ?_); rintro e' wCb ⟨rfl, vCb, lCb, mCb, KCb, oCb, uCb, dCb, PCb, eCb⟩)
  obtain ⟨d1, d2, rfl, hd1, hd1b, hd2, hd2b⟩ := map2 (a := (10, [98])) (b := (10, [98])) (eCb.trans (by kernel_rfl))
  obtain ⟨xb, cb, rfl, RDb⟩ := PCb.rd
  simp only [] at hd1 hd1b hd2 hd2b
  have cCb : Below w.heap.size w wCb := cCa.trans (((KBb.mono (fun i _ h => h.elim)).trans KCb (ms := fun i => w.heap.size ≤ i) (fun i h => .inl (h.elim (fun h => by rw [h]; exact hPw) (fun h => mw1 i (PCa.vms i h).1)))).below cCa.size (fun i h => h))
  have F1 := pFirst P _ _ xb cb [d1, d2] (by simp) wCb RDb.row RDb.it
  simp [hd1] at F1
  have F2 := pCome mCb P _ _ xb cb [d1, d2] 9 (by simp) (fun d hd => by simp at hd; rcases hd with rfl | rfl <;> simp [hd1b, hd2b]) wCb PCb.msl RDb
  rw [show comeN [d1, d2] 9 = 0 by simp [comeN, hd1]] at F2
  simp only [List.drop_zero, List.take_zero, List.map_nil] at F2
  clear kc2 BBb PBb KBb eCb
  go_wp2_with fail
  ((refine F1.mono ?_); rintro e' w' ⟨rfl, rfl⟩)
  go_wp2_with fail
  ((refine F2.mono ?_); rintro e' w3 ⟨v3, x3, c3, rfl, K3, RD3, L3⟩)
  obtain ⟨xl, cl, hv3, hcl1, hcl2, _⟩ := L3.lst
  simp only [List.length_nil] at hv3
  subst hv3
  have ms3 : MsL w3 mCb := fun g h => Nat.lt_of_lt_of_le (PCb.msl g h) K3.size
  have F3 := pCome mCb P _ _ x3 c3 [d1, d2] 10 (by simp) (fun d hd => by simp at hd; rcases hd with rfl | rfl <;> simp [hd1b, hd2b]) w3 ms3 RD3
  rw [show comeN [d1, d2] 10 = 2 by simp [comeN, hd1, hd2]] at F3
  simp [hd1b, hd2b] at F3
  have c3' : Below w.heap.size w w3 := cCb.trans (K3.below cCb.size (fun i h => by omega))
  clear F2 F1
  go_wp2_with fail
  ((refine F3.mono ?_); rintro e' w4 ⟨v4, rfl, K4, ⟨x4, c4, RD4⟩, L4⟩)
  have c4' : Below w.heap.size w w4 := c3'.trans (K4.below c3'.size (fun i h => by omega))
  obtain ⟨yl, yc, hv4, hy1, hy2, LA4⟩ := L4.lst
  simp only [List.length_cons, List.length_nil] at hv4
  subst hv4
  have kc5 := kc w4 #[.int .u8 98] 1 1
  have kc6 := kc (w4.alloc (.cells #[.int .u8 98] 5 (1, 2))) #[.int .u8 98] 1 1
  simp at kc6
  go_wp2_with fail
  obtain ⟨wA, hwA⟩ : ∃ x, x = w4.alloc (.cells #[.int .u8 98] 5 (1, 2)) := ⟨_, rfl⟩
  rw [← hwA]
  obtain ⟨wB, hwB⟩ : ∃ x, x = wA.alloc (.cells #[.int .u8 98] 5 (1, 2)) := ⟨_, rfl⟩
  rw [← hwB]
  obtain ⟨wC, hwC⟩ : ∃ x, x = wB.alloc (.cells #[.slice (some ⟨w4.heap.size, 0, none⟩) 1 1, .slice (some ⟨w4.heap.size + 1, 0, none⟩) 1 1] 44) := ⟨_, rfl⟩
  rw [← hwC]
  have sA : wA.heap.size = w4.heap.size + 1 := by rw [hwA]; simp
  have sB : wB.heap.size = w4.heap.size + 1 + 1 := by rw [hwB]; simp [sA]
  have bA : Below w4.heap.size w4 wA := by rw [hwA]; exact (Below.refl _ _).alloc (Nat.le_refl _) _
  have bB : Below w4.heap.size wA wB := by rw [hwB]; exact (Below.refl _ _).alloc (by omega) _
  have bB' : Below wA.heap.size wA wB := by rw [hwB]; exact (Below.refl _ _).alloc (by omega) _
  have bC : Below wB.heap.size wB wC := by rw [hwC]; exact (Below.refl _ _).alloc (by omega) _
  have y1 : BodyAt wC (.slice (some ⟨w4.heap.size, 0, none⟩) 1 1) [98] := ((show BodyAt wA (.slice (some ⟨w4.heap.size, 0, none⟩) 1 1) [98] by rw [hwA]; exact byte1 (heap_alloc_new w4 _)).below bB').below bC
  have y2 : BodyAt wC (.slice (some ⟨w4.heap.size + 1, 0, none⟩) 1 1) [98] := (show BodyAt wB (.slice (some ⟨w4.heap.size + 1, 0, none⟩) 1 1) [98] by rw [← sA, hwB]; exact byte1 (heap_alloc_new wA _)).below bC
  have rC : RowIs wC wB.heap.size 44 #[.slice (some ⟨w4.heap.size, 0, none⟩) 1 1, .slice (some ⟨w4.heap.size + 1, 0, none⟩) 1 1] := by rw [hwC]; exact RowIs.mk (heap_alloc_new wB _)
  rw [sB] at rC
  have LC : LstAt wC (some ⟨w4.heap.size + 1 + 1, 0, none⟩) [[98], [98]] := .inr ⟨_, 0, [.slice (some ⟨w4.heap.size, 0, none⟩) 1 1, .slice (some ⟨w4.heap.size + 1, 0, none⟩) 1 1], rfl, rC.lt, rfl, fun i hi => by
    rcases (by simp at hi; omega : i = 0 ∨ i = 1) with rfl | rfl
    · exact ⟨rC.cell 0, y1⟩
    · exact ⟨rC.cell 1, y2⟩⟩
  have b4C : Below w4.heap.size w4 wC := (bA.trans bB).trans (bC.mono (by omega))
  ((refine (rSameLists yl _ yc 2 [[98], [98]] (by simp) hy1 (by simp) wC (LA4.below b4C) LC).mono ?_); rintro e' w5 ⟨rfl, b5⟩)
  have b45 : Below w4.heap.size w4 w5 := b4C.trans (b5.mono b4C.size)
  have r5 := RD4.row.bel b45
  have c5 := c4'.trans (b45.mono c4'.size)
  have F5 := pFirst P _ _ x4 c4 [] (by simp) w5 r5 (.inl rfl)
  simp at F5
  clear hwA hwB hwC LC LA4 rC y1 y2
  go_wp2_with fail
  ((refine (pCount P _ _ _ w5 r5).mono ?_); rintro e' w' ⟨rfl, rfl⟩)
  go_wp2_with fail
  ((refine F5.mono ?_); rintro e' w' ⟨rfl, rfl⟩)
  go_wp2_with fail
  go_ret
  exact ⟨rfl, c5⟩

end Go.Proofs.Ytikkmdbaekdolaa

/- the reference's Come, for the last time there is: all comes, by times, of one time as it was put. -/
namespace Go.Proofs.Ytikkmdbaekdolaa
open Go.RowKit Go.Lib
set_option linter.unusedVariables false
set_option maxRecDepth 100000

theorem rtake_done {w wT : World} {ms : Nat → Prop} {P : Nat} {xf : Option Addr} {cf : Nat} {fl : List FateP} {n : Int} {v v9 : Value} {l l' : List Itm} (HA : RefAt w ms P xf cf fl n v l) (C : Chg (fun i => i = P) w wT) (hl : ∀ d ∈ l', d ∈ l) (hrow : RowIs wT P 60 #[.slice xf fl.length cf, v9, .int .i64 n]) (hown : wT.ownsRow 0 127 2 v9 l'.length (flatI l')) (hv9 : ∀ g, v9.ownBlock = some g → w.heap.size ≤ g) :
    RefAt wT (fun g => ms g ∨ v9.ownBlock = some g) P xf cf fl n v9 l' := by
  have hF : ∀ g, g < w.heap.size → ¬ ms g → ¬ g = P := fun g _ h e => h (by rw [e]; exact HA.mine)
  refine { row := hrow, mine := .inl HA.mine, msl := ?_, fates := ?_, fatesF := ?_, own := hown, vms := ?_, its := ?_ }
  · exact fun g h => h.elim (fun h => Nat.lt_of_lt_of_le (HA.msl g h) C.size) (fun h => (hown.lt g h).2)
  · exact HA.fates.chg C (fun g o hne e => hF g (HA.fatesF g o hne e).1 (HA.fatesF g o hne e).2)
  · intro g o hne e
    obtain ⟨h1, h2⟩ := HA.fatesF g o hne e
    exact ⟨Nat.lt_of_lt_of_le h1 C.size, fun h => h.elim h2 (fun h => absurd h1 (Nat.not_lt.mpr (hv9 g h)))⟩
  · intro g e
    exact ⟨.inr e, fun h => by have := HA.row.lt; have := hv9 g e; omega⟩
  · intro d hd
    have h := HA.its d (hl d hd)
    exact ⟨h.1, h.2.1.chg C (fun i _ e => by rw [e]; exact HA.mine) (fun i hi h => h.elim (fun h => h) (fun h => absurd hi (Nat.not_lt.mpr (hv9 i h)))), h.2.2⟩
/-- the plain step: the first least one is taken out -/
theorem least_step (l : List Itm) (k : Nat) (hk : k < l.length) (h : LeastI l l.length k) : (sortS (l.map pr)).map (·.2) = (l.getD k zI).bs :: (sortS ((l.take k ++ l.drop (k + 1)).map pr)).map (·.2) := by
  have e : l = l.take k ++ l.getD k zI :: l.drop (k + 1) := by
    rw [List.getD_eq_getElem?_getD, List.getElem?_eq_getElem hk]
    simp
  have e2 : l.map pr = (l.take k).map pr ++ pr (l.getD k zI) :: (l.drop (k + 1)).map pr := by
    conv => lhs; rw [e]
    rw [List.map_append, List.map_cons]
  have at1 : ∀ (j : Nat) (h : j < l.length), l[j] = l.getD j zI := fun j h => by rw [List.getD_eq_getElem?_getD, List.getElem?_eq_getElem h]; rfl
  rw [e2, sortS_least]
  · rw [List.map_append, List.map_cons]
    rfl
  · intro p hp
    obtain ⟨d, hd, rfl⟩ := List.mem_map.1 hp
    obtain ⟨j, hj, rfl⟩ := List.mem_iff_getElem.1 hd
    rw [List.length_take] at hj
    rw [List.getElem_take, at1 j (by omega)]
    exact h.1 j (by omega)
  · intro p hp
    obtain ⟨d, hd, rfl⟩ := List.mem_map.1 hp
    obtain ⟨j, hj, rfl⟩ := List.mem_iff_getElem.1 hd
    rw [List.length_drop] at hj
    rw [List.getElem_drop, at1 _ (by omega)]
    exact h.2 _ (by omega) (by omega)
/-- how many items the way holds, as it lies there -/
def lenAtR (w : World) (P : Nat) : Nat := match w.cell? ⟨P, 1, none⟩ with | some (.slice _ n _) => n | _ => 0
theorem own_cap {w : World} {B n s c : Nat} {e : TypeId} {x : Option Addr} {xs : List Value} (h : w.ownsRow B e s (.slice x n c) n xs) : n ≤ c ∧ c ≤ 9223372036854775807 := by
  obtain ⟨_, ⟨e, h2⟩ | ⟨g, c', cur, e, _, _, hc, hm, _⟩⟩ := h
  · injection e with e1 e2 e3
    exact ⟨by omega, by omega⟩
  · injection e with e1 e2 e3
    unfold maxLen at hm
    exact ⟨by omega, by omega⟩
theorem flatI_one (l : List Itm) (h : ∀ d ∈ l, d.v.oneCell' = true) : ∀ u ∈ flatI l, u.oneCell' = true := fun u hu => by
  obtain ⟨d, hd, hu⟩ := List.mem_flatMap.1 hu
  simp only [List.mem_cons, List.not_mem_nil, or_false] at hu
  rcases hu with rfl | rfl
  · rfl
  · exact h d hd
/-- the cells of some of the items -/
theorem flatI_src {w : World} {g o : Nat} {l : List Itm} (h : ItAt w g o l) (a b : Nat) (hb : a + b ≤ l.length) : ∀ (j : Nat) (u : Value), (flatI ((l.drop a).take b))[j]? = some u → w.cell? ((⟨g, o + a * 2, none⟩ : Addr).add j) = some u := fun j u hu => by
  have hlen : ((l.drop a).take b).length = b := by rw [List.length_take, List.length_drop]; omega
  have hj : j < b * 2 := by
    have := (List.getElem?_eq_some_iff.1 hu).1
    rw [flatI_len, hlen] at this
    exact this
  have hg : ((l.drop a).take b).getD (j / 2) zI = l.getD (a + j / 2) zI := by
    rw [List.getD_eq_getElem?_getD, List.getElem?_take, if_pos (by omega), List.getElem?_drop, ← List.getD_eq_getElem?_getD]
  obtain ⟨e1, e2⟩ := flatI_at ((l.drop a).take b) (j / 2) (by omega)
  obtain ⟨c1, c2⟩ := h.2 (a + j / 2) (by omega)
  rw [hg] at e1 e2
  rw [addr_add]
  rcases Nat.mod_two_eq_zero_or_one j with h0 | h1
  · rw [show j = j / 2 * 2 by omega, e1] at hu
    cases hu
    rw [show o + a * 2 + j = o + (a + j / 2) * 2 by omega]
    exact c1
  · rw [show j = j / 2 * 2 + 1 by omega, e2] at hu
    cases hu
    rw [show o + a * 2 + j = o + (a + j / 2) * 2 + 1 by omega]
    exact c2

/-- what has come: lists of bytes in a row of the call's own -/
structure OutAt (w : World) (B : Nat) (ms : Nat → Prop) (v : Value) (L : List (List Int)) (us : List Value) : Prop where
  len : us.length = L.length
  own : w.ownsRow B 44 1 v us.length us
  its : ∀ i, i < L.length → BodyF w ms (us.getD i undef) (L.getD i [])
  one : ∀ u ∈ us, u.oneCell' = true
theorem OutAt.snoc {w w7 : World} {B : Nat} {ms ms7 : Nat → Prop} {v v7 u : Value} {L : List (List Int)} {us : List Value} {bs : List Int} (h : OutAt w B ms v L us) (hb : ∀ u bs, BodyF w ms u bs → BodyF w7 ms7 u bs) (ho : w7.ownsRow B 44 1 v7 (us.length + 1) (us ++ [u])) (hu : BodyF w7 ms7 u bs) (h1 : u.oneCell' = true) : OutAt w7 B ms7 v7 (L ++ [bs]) (us ++ [u]) where
  len := by rw [List.length_append, List.length_append, h.len]; rfl
  own := by rw [List.length_append]; exact ho
  its := fun i hi => by
    have hl := h.len
    by_cases hi2 : i < us.length
    · rw [List.getD_eq_getElem?_getD, List.getElem?_append_left hi2, ← List.getD_eq_getElem?_getD, List.getD_eq_getElem?_getD (l := _ ++ _), List.getElem?_append_left (by omega), ← List.getD_eq_getElem?_getD]
      exact hb _ _ (h.its i (by omega))
    · have hi3 : i = us.length := by simp at hi; omega
      subst hi3
      rw [List.getD_eq_getElem?_getD, List.getElem?_append_right (Nat.le_refl _), Nat.sub_self, List.getD_eq_getElem?_getD (l := _ ++ _), List.getElem?_append_right (by omega), hl, Nat.sub_self]
      exact hu
  one := fun u' hu' => by
    simp only [List.mem_append, List.mem_singleton] at hu'
    rcases hu' with hu' | rfl
    · exact h.one u' hu'
    · exact h1

set_option maxHeartbeats 16000000 in
theorem rCome (ms : Nat → Prop) (P : Nat) (xf : Option Addr) (cf : Nat) (fl : List FateP) (n : Int) (v : Value) (l : List Itm) (hl : l.length ≤ 1000) (hbs : ∀ d ∈ l, d.bs.length ≤ 140737488351232) (w : World) (hA : RefAt w ms P xf cf fl n v l) :
    Calls Try.prog 33 #[.pointer (some ⟨P, 0, none⟩), .int .u64 18446744073709551615] w fun e w' => ∃ v', e = .returned v' ∧ Chg (fun i => i = P) w w' ∧ ListO w' w.heap.size ms v' ((sortS (l.map pr)).map (·.2)) ∧ ∃ u, RowIs w' P 60 #[.slice xf fl.length cf, u, .int .i64 n] := by
  obtain ⟨i1, hi1, hzz1, hs1, hbb1⟩ := info_parts (P := Try.prog) (e := 5) (z := .int .u8 0) (size := 1) (bytes := 1) (by kernel_rfl)
  obtain ⟨i2, hi2, hzz2, hs2, hbb2⟩ := info_parts (P := Try.prog) (e := 44) (z := .slice none 0 0) (size := 1) (bytes := 24) (by kernel_rfl)
  obtain ⟨i3, hi3, hzz3, hs3, hbb3⟩ := info_parts (P := Try.prog) (e := 127) (z := (.agg #[.int .u64 0, .slice none 0 0])) (size := 2) (bytes := 32) (by kernel_rfl)
  have HA := Lib.hid hA
  have HBS := Lib.hid hbs
  have lP := hA.row.lt
  obtain ⟨nf, hnf⟩ : ∃ k, fl.length = k := ⟨_, rfl⟩
  have HNF := Lib.hid hnf
  clear hA hbs hnf
  go_enter Try.func33, Try.ntmps33
  go_wp2_with fail
  go_loopw [5] (fun ov wr => ∃ (vj : Value) (lj : List Itm) (L : List (List Int)) (us : List Value) (msj : Nat → Prop), L.length + lj.length = l.length ∧ (∀ d ∈ lj, d ∈ l) ∧ Chg (fun i => i = P) w wr ∧ (∀ g, ms g → msj g) ∧ (∀ g, msj g → ms g ∨ w.heap.size ≤ g) ∧ (∀ g, ov.ownBlock = some g → msj g ∧ ¬ vj.ownBlock = some g) ∧ RefAt wr msj P xf cf fl n vj lj ∧ OutAt wr w.heap.size msj ov L us ∧ (sortS (l.map pr)).map (·.2) = L ++ (sortS (lj.map pr)).map (·.2)) (fun _ wr => lenAtR wr P)
  case atStart => exact ⟨v, l, [], [], ms, by simp, fun _ h => h, Chg.refl _ _, fun _ h => h, fun _ h => .inl h, (fun g h => by cases h), HA.out, ⟨rfl, World.ownsRow_nil _ _ _ _, fun i hi => absurd hi (by simp), fun u hu => by cases hu⟩, rfl⟩
  case round =>
    obtain ⟨vj, lj, L, us, msj, hlen, hsub, hchg, hup, hdn, hov, hra, hout, hsort⟩ := hrel
    have HSUB := Lib.hid hsub
    have HCH := Lib.hid hchg
    have HUP := Lib.hid hup
    have HDN := Lib.hid hdn
    have HOV := Lib.hid hov
    have HRA := Lib.hid hra
    have HO := Lib.hid hout
    have HSO := Lib.hid hsort
    obtain ⟨xj, cj, rfl, hI⟩ := itOfOwnR rfl hra.own
    have hcap := own_cap hra.own
    have hrow := hra.row
    have sW := HCH.out.size
    obtain ⟨N, hN⟩ : ∃ k, lj.length = k := ⟨_, rfl⟩
    have HN := Lib.hid hN
    have FI := rFirst P _ _ xj cj lj (by omega) hcap.1 wr hrow hI
    have HFI := Lib.hid FI
    have HI := Lib.hid hI
    rw [HNF.out, hN] at hrow
    rw [hN] at HRA
    rw [hN] at hlen hcap
    have HRO := Lib.hid hrow
    have lPr := hrow.lt
    have p1 := hrow.cell 1
    simp at p1
    have hml : lenAtR wr P = N := by unfold lenAtR; rw [p1]
    have HML := Lib.hid hml
    clear hsub hchg hup hdn hov hra hout hsort FI hN hI hml hrow
    go_wp2_with fail
    ((refine HFI.out.mono ?_); rintro e' w' ⟨rfl, hres⟩)
    rcases hres with ⟨h0, rfl⟩ | ⟨k, hk, hL, rfl⟩
    · have H0 := Lib.hid h0
      clear h0
      go_wp2_with fail
      go_ret
      refine ⟨u5, rfl, HCH.out, ⟨us, ?_, HO.out.own, ?_, HO.out.one⟩, _, HRA.out.row⟩
      · rw [HSO.out, H0.out]; simpa [sortS] using HO.out.len
      · intro i hi
        rw [HSO.out, H0.out] at hi ⊢
        simp [sortS] at hi ⊢
        have h := HO.out.its i hi
        rw [List.getD_eq_getElem?_getD (l := L)] at h
        exact h.chg (Chg.refl (fun _ => False) _) (fun _ _ h => h.elim) (fun i _ h => h.elim (HUP.out i) (fun h => (HOV.out i h).1))
    · obtain ⟨d, hd⟩ : ∃ d, lj.getD k zI = d := ⟨_, rfl⟩
      have hmem : d ∈ lj := by rw [← hd, List.getD_eq_getElem?_getD, List.getElem?_eq_getElem hk]; exact List.getElem_mem _
      have hkN : k < N := by have := HN.out; omega
      obtain ⟨g, o, rfl, hgl, hcells⟩ : ∃ g o, xj = some ⟨g, o, none⟩ ∧ ItAt wr g o lj := by
        rcases HI.out with h | h
        · rw [h] at hk; simp at hk
        · exact h
      have HCE : Hid (ItAt wr g o lj) := ⟨hgl, hcells⟩
      obtain ⟨q0, q1⟩ := hcells k hk
      have hits := HRA.out.its d hmem
      have hW := hits.1
      unfold W64 at hW
      obtain ⟨bx, bc, hdv⟩ := BodyAt.form hits.2.1.at
      rw [hd] at q0 q1 ⊢
      rw [hdv] at q1
      have HBF : Hid (BodyF wr msj (.slice bx d.bs.length bc) d.bs) := by rw [← hdv]; exact hits.2.1
      have hbI : d.bs.length ≤ 140737488351232 := HBS.out d (HSUB.out d hmem)
      have HSTEP := Lib.hid (least_step lj k hk hL)
      rw [hd] at HSTEP
      have hkI : (k : Int) < (N : Int) := by omega
      have hcI : (N : Int) ≤ (cj : Int) := by omega
      have hk0 : decide ((k : Int) < 0) = false := decide_eq_false (by omega)
      have hul : us.length ≤ 1000 := by have := HO.out.len; omega
      have hN1000 : N ≤ 1000 := by omega
      have hob : Hid (∀ g, u5.ownBlock = some g → w.heap.size ≤ g ∧ g < wr.heap.size) := fun g e => HO.out.own.lt g e
      have HMSR := Lib.hid HRA.out.msl
      obtain ⟨da, hda⟩ : ∃ a, d.at_ = a := ⟨_, rfl⟩
      rw [hda] at q0 hW ⊢
      have hcmp : decide (18446744073709551615 < da) = false := decide_eq_false (by omega)
      have hkl : k + 1 ≤ lj.length := hk
      have HKL := Lib.hid hkl
      clear hd hmem hits hdv hda hcells hL hk hkl
      have hw1 : IntKind.i64.wrap ((k : Int) + 1) = (k : Int) + 1 := by rw [IntKind.wrap_i64]; omega
      go_wp2_with (first | (at_builtin; (refine wpList_append_any _ rfl (.const (.slice none 0 0)) (.tmp 29) 44 rfl wr.heap.size 5 i1 (.int .u8 0) 1 1 Try.underlying44 hi1 hzz1 hs1 hbb1 rfl (by decide) (.slice none 0 0) 0 [] rfl (World.ownsRow_nil _ _ _ _) bx d.bs.length bc (d.bs.map (.int .u8)) rfl (by simp) (bodySrc HBF.out.at).2 (oneCell_bytes _) (by simp [maxLen]; omega) (by omega) (Nat.le_refl _) ?_; intro v6 w6 own6 hgrow6 hat6; simp only [Nat.zero_add, List.nil_append] at own6; obtain ⟨x6, c6, rfl, BF6⟩ := bodyOfOwn (ms := msj) own6 HMSR.out)) | (at_builtin; (refine wpList_append_any _ rfl (.tmp 21) (.tmp 31) 43 rfl w.heap.size 44 i2 (.slice none 0 0) 1 24 Try.underlying43 hi2 hzz2 hs2 hbb2 rfl (by decide) u5 us.length us rfl (Chg.own (ms := fun _ => False) HO.out.own ((Chg.ofGrown hgrow6).mono (fun i _ e => by cases e)) (fun _ _ h => h) |>.alloc _) (some ⟨w6.heap.size, 0, none⟩) 1 1 [.slice x6 d.bs.length c6] rfl rfl (.inr ⟨_, rfl, newsOf _ _ _⟩) (fun u hu => by simp at hu; subst hu; rfl) (by simp [maxLen]; omega) (by omega) (by have := hgrow6.size; simp; omega) ?_; intro v7 w7 own7 hgrow7 hat7)))
      have K6 : Chg (fun _ => False) wr w6 := (Chg.ofGrown hgrow6).mono (fun i _ e => by cases e)
      have K7 : Chg (fun i => u5.ownBlock = some i) wr w7 := ((K6.trans (Chg.alloc (ms := fun _ => False) _ _) (fun _ h => .inl h)).mono (fun _ _ h => h.elim)).trans (Chg.ofGrown hgrow7) (fun i h => .inl h)
      have h7 : ∀ i, i < wr.heap.size → (msj i ∨ v7.ownBlock = some i) → msj i := fun i hi h => h.elim (fun h => h) (fun h => by
        rcases hat7 with e | e
        · exact (HOV.out i (by rw [← e]; exact h)).1
        · rw [e] at h
          have hz := K6.size
          simp at h
          omega)
      have h76 : ∀ i, i < w6.heap.size → (msj i ∨ v7.ownBlock = some i) → msj i := fun i hi h => h.elim (fun h => h) (fun h => by
        rcases hat7 with e | e
        · exact (HOV.out i (by rw [← e]; exact h)).1
        · rw [e] at h
          simp at h
          omega)
      have s6 := K6.size
      have s7 := K7.size
      have K67 : Chg (fun i => u5.ownBlock = some i) w6 w7 := (Chg.alloc (ms := fun i => u5.ownBlock = some i) _ _).trans (Chg.ofGrown hgrow7) (fun i h => .inl h)
      have RA7 : RefAt w7 (fun g => msj g ∨ v7.ownBlock = some g) P xf cf fl n (.slice (some ⟨g, o, none⟩) N cj) lj := HRA.out.chg K7 (fun h => by have := (hob.out P h).1; omega) (fun g h h' => (HOV.out g h').2 h) (fun i _ h => (HOV.out i h).1) h7 (fun _ h => .inl h) (fun g h => h.elim (fun h => Nat.lt_of_lt_of_le (HMSR.out g h) s7) (fun h => (own7.lt g h).2))
      have hB7 : ∀ u bs, BodyF wr msj u bs → BodyF w7 (fun g => msj g ∨ v7.ownBlock = some g) u bs := fun u bs h => h.chg K7 (fun i _ h => (HOV.out i h).1) h7
      have BF7 : BodyF w7 (fun g => msj g ∨ v7.ownBlock = some g) (.slice x6 d.bs.length c6) d.bs := BF6.chg K67 (fun i _ h => (HOV.out i h).1) h76
      have OUT7 := HO.out.snoc hB7 own7 BF7 rfl
      have hov7 : ∀ g, v7.ownBlock = some g → w.heap.size ≤ g := fun g h => (own7.lt g h).1
      have C7 : Chg (fun i => i = P) w w7 := HCH.out.trans K7 (fun i h => .inr (hob.out i h).1)
      have row7 := K7.row HRO.out (fun h => by have := (hob.out P h).1; omega)
      have HC7 := Lib.hid C7
      have HRA7 := Lib.hid RA7
      have HOUT7 := Lib.hid OUT7
      have HH7 := Lib.hid h7
      have HOV7 := Lib.hid hov7
      have HCE7 : Hid (ItAt w7 g o lj) := ⟨Nat.lt_of_lt_of_le hgl s7, fun i hi => ⟨(K7.cell hgl (fun h => (HOV.out g h).2 rfl)).trans (HCE.out.2 i hi).1, (K7.cell hgl (fun h => (HOV.out g h).2 rfl)).trans (HCE.out.2 i hi).2⟩⟩
      have HD7 : Hid (∀ g, (Value.slice x6 d.bs.length c6).ownBlock = some g → True) := fun _ _ => trivial
      clear C7 RA7 OUT7 h7 h76 hB7 BF7 BF6 own6 hgrow6 hat6 own7 hgrow7 hat7 K6 K67 hov7 K7 q0 q1
      clear hkI
      have hkI : (k : Int) < (N : Int) := by omega
      refine TillLast.begin (S := fun W => RowIs W P 60 #[.slice xf nf cf, .slice (some ⟨g, o, none⟩) N cj, .int .i64 n]) 18 (by kernel_rfl) ?_
      obtain ⟨X, hX⟩ : ∃ X, X = w7.drew := ⟨_, rfl⟩
      have KX : Chg (fun _ => False) w7 X := by rw [hX]; exact Chg.drew' (Chg.refl _ _)
      have rX := KX.row row7 (fun h => h)
      rw [← hX]
      clear hX
      refine TillLast.take (i := 0) (oi := _) (v := (.pointer (some ⟨P, 0, none⟩))) rfl (by kernel_rfl) (by kernel_rfl) (by kernel_rfl) (by kernel_rfl) (fun _ _ _ h => h) (Or.inl ⟨by rfl, fun w hS => by go_simp⟩) rX ?_
      simp [Act.put]
      refine TillLast.take (i := 1) (oi := _) (v := (.pointer (some ⟨P, 0, none⟩))) rfl (by kernel_rfl) (by kernel_rfl) (by kernel_rfl) (by kernel_rfl) (fun _ _ _ h => h) (Or.inl ⟨by rfl, fun w hS => by go_simp⟩) rX ?_
      simp [Act.put]
      refine TillLast.take (i := 2) (oi := _) (v := (.pointer (some ⟨P, 0, none⟩))) rfl (by kernel_rfl) (by kernel_rfl) (by kernel_rfl) (by kernel_rfl) (fun _ _ _ h => h) (Or.inl ⟨by rfl, fun w hS => by go_simp⟩) rX ?_
      simp [Act.put]
      refine TillLast.take (i := 3) (oi := _) (v := (.pointer (some ⟨P, 1, none⟩))) rfl (by kernel_rfl) (by kernel_rfl) (by kernel_rfl) (by kernel_rfl) (fun _ _ _ h => h) (Or.inl ⟨by rfl, fun w hS => by go_simp⟩) rX ?_
      simp [Act.put]
      refine TillLast.take (i := 4) (oi := _) (v := (.slice (some ⟨g, o, none⟩) N cj)) rfl (by kernel_rfl) (by kernel_rfl) (by kernel_rfl) (by kernel_rfl) (fun _ _ _ h => h) (Or.inl ⟨by rfl, fun w hS => by have hc1 := RowIs.cell hS 1; have hlt := RowIs.lt hS; simp at hc1; clear hS; go_simp⟩) rX ?_
      simp [Act.put]
      refine TillLast.take (i := 5) (oi := _) (v := (.int .i64 (k : Int))) rfl (by kernel_rfl) (by kernel_rfl) (by kernel_rfl) (by kernel_rfl) (fun _ _ _ h => h) (Or.inl ⟨by rfl, fun w hS => by go_simp⟩) rX ?_
      simp [Act.put]
      refine TillLast.take (i := 6) (oi := _) (v := (.slice (some ⟨g, o, none⟩) k cj)) rfl (by kernel_rfl) (by kernel_rfl) (by kernel_rfl) (by kernel_rfl) (fun _ _ _ h => h) (Or.inl ⟨by rfl, fun w hS => by clear hS; go_simp; try (intro h; omega)⟩) rX ?_
      simp [Act.put]
      refine TillLast.take (i := 8) (oi := _) (v := (.pointer (some ⟨P, 0, none⟩))) rfl (by kernel_rfl) (by kernel_rfl) (by kernel_rfl) (by kernel_rfl) (fun _ _ _ h => h) (Or.inl ⟨by rfl, fun w hS => by go_simp⟩) rX ?_
      simp [Act.put]
      refine TillLast.take (i := 9) (oi := _) (v := (.pointer (some ⟨P, 0, none⟩))) rfl (by kernel_rfl) (by kernel_rfl) (by kernel_rfl) (by kernel_rfl) (fun _ _ _ h => h) (Or.inl ⟨by rfl, fun w hS => by go_simp⟩) rX ?_
      simp [Act.put]
      refine TillLast.take (i := 10) (oi := _) (v := (.pointer (some ⟨P, 1, none⟩))) rfl (by kernel_rfl) (by kernel_rfl) (by kernel_rfl) (by kernel_rfl) (fun _ _ _ h => h) (Or.inl ⟨by rfl, fun w hS => by go_simp⟩) rX ?_
      simp [Act.put]
      refine TillLast.take (i := 11) (oi := _) (v := (.slice (some ⟨g, o, none⟩) N cj)) rfl (by kernel_rfl) (by kernel_rfl) (by kernel_rfl) (by kernel_rfl) (fun _ _ _ h => h) (Or.inl ⟨by rfl, fun w hS => by have hc1 := RowIs.cell hS 1; have hlt := RowIs.lt hS; simp at hc1; clear hS; go_simp⟩) rX ?_
      simp [Act.put]
      refine TillLast.take (i := 12) (oi := _) (v := (.int .i64 (k : Int))) rfl (by kernel_rfl) (by kernel_rfl) (by kernel_rfl) (by kernel_rfl) (fun _ _ _ h => h) (Or.inl ⟨by rfl, fun w hS => by go_simp⟩) rX ?_
      simp [Act.put]
      refine TillLast.take (i := 13) (oi := _) (v := (.int .i64 ((k : Int) + 1))) rfl (by kernel_rfl) (by kernel_rfl) (by kernel_rfl) (by kernel_rfl) (fun _ _ _ h => h) (Or.inl ⟨by rfl, fun w hS => by clear hS; go_simp⟩) rX ?_
      simp [Act.put]
      refine TillLast.take (i := 14) (oi := _) (v := (.slice (if cj = k + 1 then some ⟨g, o, none⟩ else some ⟨g, o + (k + 1) * 2, none⟩) (N - (k + 1)) (cj - (k + 1)))) rfl (by kernel_rfl) (by kernel_rfl) (by kernel_rfl) (by kernel_rfl) (fun _ _ _ h => h) (Or.inl ⟨by rfl, fun w hS => by clear hS; go_simp; try (intro h; omega)⟩) rX ?_
      simp [Act.put]
      obtain ⟨Z, hZ⟩ : ∃ Z : Option Addr, Z = (if cj = k + 1 then some (⟨g, o, none⟩ : Addr) else some ⟨g, o + (k + 1) * 2, none⟩) := ⟨_, rfl⟩
      try rw [← hZ]
      have HZ := Lib.hid hZ
      clear hZ
      have HCX : Hid (ItAt X g o lj) := ⟨Nat.lt_of_lt_of_le HCE7.out.1 KX.size, fun i hi => ⟨(KX.cell HCE7.out.1 (fun h => h)).trans (HCE7.out.2 i hi).1, (KX.cell HCE7.out.1 (fun h => h)).trans (HCE7.out.2 i hi).2⟩⟩
      have hone := flatI_one lj (fun d hd => (HRA7.out.its d hd).2.2)
      have hone1 : Hid (∀ u ∈ flatI (lj.take k), u.oneCell' = true) := flatI_one _ (fun d hd => (HRA7.out.its d (List.mem_of_mem_take hd)).2.2)
      have hone2 : Hid (∀ u ∈ flatI (lj.drop (k + 1)), u.oneCell' = true) := flatI_one _ (fun d hd => (HRA7.out.its d (List.mem_of_mem_drop hd)).2.2)
      have hlt1 : (lj.take k).length = k := by rw [List.length_take, HN.out]; omega
      have hlt2 : (lj.drop (k + 1)).length = N - (k + 1) := by rw [List.length_drop, HN.out]
      have HLT1 := Lib.hid hlt1
      have HLT2 := Lib.hid hlt2
      have sX := KX.size
      clear hone hlt1 hlt2
      refine TillLast.step (i := 7) (by kernel_rfl) rfl (fun K hK => ?_)
      rw [if_pos (by rfl)]
      refine wp_append_any (.const (.slice none 0 0)) (.tmp 39) 58 rfl w7.heap.size 127 i3 (.agg #[.int .u64 0, .slice none 0 0]) 2 32 Try.underlying58 hi3 hzz3 hs3 hbb3 rfl (by decide) (.slice none 0 0) 0 [] rfl (World.ownsRow_nil _ _ _ _) (some ⟨g, o, none⟩) k cj (flatI (lj.take k)) rfl (by rw [flatI_len, HLT1.out]) (.inr ⟨_, rfl, fun j u hu => by simpa using flatI_src HCX.out 0 k (by rw [HN.out]; omega) j u (by simpa using hu)⟩) hone1.out (by simp [maxLen]; omega) (by omega) sX ?_
      intro v8 w8 own8 hgrow8 hat8
      simp only [Nat.zero_add, List.nil_append] at own8
      obtain ⟨x8, c8, rfl⟩ := own_slice own8
      have K8 : Chg (fun _ => False) X w8 := (Chg.ofGrown hgrow8).mono (fun i _ e => by cases e)
      have rX8 := K8.row rX (fun h => h)
      have h8 : Hid (∀ g', (Value.slice x8 k c8).ownBlock = some g' → w7.heap.size ≤ g') := fun g' e => (own8.lt g' e).1
      have HC8 : Hid (ItAt w8 g o lj) := ⟨Nat.lt_of_lt_of_le HCX.out.1 K8.size, fun i hi => ⟨(K8.cell HCX.out.1 (fun h => h)).trans (HCX.out.2 i hi).1, (K8.cell HCX.out.1 (fun h => h)).trans (HCX.out.2 i hi).2⟩⟩
      have HO8 := Lib.hid own8
      have s8 := K8.size
      clear hgrow8 hat8 own8
      simp [Act.put]
      refine hK.out _ _ (fun _ => rX8) ?_
      clear hK K
      refine TillLast.step (i := 15) (by kernel_rfl) rfl (fun K hK => ?_)
      rw [if_pos (by rfl)]
      refine wp_append_any (.tmp 40) (.tmp 47) 58 rfl w7.heap.size 127 i3 (.agg #[.int .u64 0, .slice none 0 0]) 2 32 Try.underlying58 hi3 hzz3 hs3 hbb3 rfl (by decide) (.slice x8 k c8) k (flatI (lj.take k)) rfl HO8.out Z (N - (k + 1)) (cj - (k + 1)) (flatI (lj.drop (k + 1))) rfl (by rw [flatI_len, HLT2.out]) (by
        by_cases hz : k + 1 = N
        · have e : lj.drop (k + 1) = [] := List.drop_eq_nil_of_le (by rw [HN.out]; omega)
          rw [HZ.out, e]
          split <;> exact .inr ⟨_, rfl, fun j u hu => by simp [flatI] at hu⟩
        · rw [HZ.out, if_neg (by omega)]
          exact .inr ⟨_, rfl, fun j u hu => flatI_src HC8.out (k + 1) (N - (k + 1)) (by rw [HN.out]; omega) j u (by rw [List.take_of_length_le (Nat.le_of_eq HLT2.out)]; exact hu)⟩) hone2.out (by simp [maxLen]; omega) (by omega) (by omega) ?_
      intro v9 w9 own9 hgrow9 hat9
      obtain ⟨x9, c9, rfl⟩ := own_slice own9
      have K9 : Chg (fun i => (Value.slice x8 k c8).ownBlock = some i) w8 w9 := Chg.ofGrown hgrow9
      have rX9 := K9.row rX8 (fun h => by have := h8.out P h; omega)
      have h9 : Hid (∀ g', (Value.slice x9 (k + (N - (k + 1))) c9).ownBlock = some g' → w7.heap.size ≤ g') := fun g' e => (own9.lt g' e).1
      rw [← flatI_app] at own9
      have HO9 := Lib.hid own9
      have KT : Chg (fun _ => False) w7 w9 := ((KX.trans K8 (fun _ h => h.elim)).trans K9 (fun i h => .inr (h8.out i h)))
      clear hgrow9 hat9 own9 K8 KX HCX HC8 rX rX8
      simp [Act.put]
      refine hK.out _ _ (fun _ => rX9) ?_
      clear hK K
      refine TillLast.take (i := 16) (oi := _) (v := (.pointer (some ⟨P, 0, none⟩))) rfl (by kernel_rfl) (by kernel_rfl) (by kernel_rfl) (by kernel_rfl) (fun _ _ _ h => h) (Or.inl ⟨by rfl, fun w hS => by go_simp⟩) rX9 ?_
      simp [Act.put]
      refine TillLast.take (i := 17) (oi := _) (v := (.pointer (some ⟨P, 1, none⟩))) rfl (by kernel_rfl) (by kernel_rfl) (by kernel_rfl) (by kernel_rfl) (fun _ _ _ h => h) (Or.inl ⟨by rfl, fun w hS => by go_simp⟩) rX9 ?_
      simp [Act.put]
      have zX9 := RowIs.fz rX9 1
      have cX9 := RowIs.cell rX9 1
      have lX9 := RowIs.lt rX9
      simp at cX9
      refine TillLast.step (i := 18) (by kernel_rfl) rfl (fun K hK => ?_)
      go_simp
      refine hK.out _ _ (fun h => absurd rfl h) ?_
      clear hK K
      refine TillLast.done (by kernel_rfl) ?_ _
      have hNe : k + (N - (k + 1)) = N - 1 := by omega
      try rw [hNe] at h9 HO9 ⊢
      obtain ⟨wT, hwT⟩ : ∃ wT, wT = w9.setCell ⟨P, 1, none⟩ (.slice x9 (N - 1) c9) := ⟨_, rfl⟩
      try rw [← hwT]
      have KE : Chg (fun i => i = P) w9 wT := by rw [hwT]; exact Chg.setCell _ _ _ _
      have rT : RowIs wT P 60 #[.slice xf nf cf, .slice x9 (N - 1) c9, .int .i64 n] := by rw [hwT]; exact rX9.set1 _
      have CT : Chg (fun i => i = P) w7 wT := (KT.mono (fun _ _ h => h.elim)).trans KE (fun i h => .inl h)
      have hlen' : (lj.take k ++ lj.drop (k + 1)).length = N - 1 := by rw [List.length_append, HLT1.out, HLT2.out]; omega
      have ownT := KE.own HO9.out (fun g' e h => by have := h9.out g' e; omega)
      have RT := rtake_done (l' := lj.take k ++ lj.drop (k + 1)) HRA7.out CT (fun d hd => (List.mem_append.1 hd).elim List.mem_of_mem_take List.mem_of_mem_drop) (by rw [HNF.out]; exact rT) (by rw [hlen']; exact own_base ownT (Nat.zero_le _)) h9.out
      have hml' : lenAtR wT P = N - 1 := by
        have := rT.cell 1
        simp at this
        unfold lenAtR
        rw [this]
      have HMLT := Lib.hid hml'
      have HRT := Lib.hid RT
      have HCT := Lib.hid CT
      have HLE := Lib.hid hlen'
      clear hwT KE rT CT ownT RT KT HO8 HO9 hml' hlen' rX9 zX9 cX9 HCE7 HCE
      go_wp2_with fail
      go_roundw
      case rel =>
        have sT := HCT.out.size
        refine ⟨.slice x9 (N - 1) c9, lj.take k ++ lj.drop (k + 1), L ++ [d.bs], us ++ [.slice x6 d.bs.length c6], fun g => (msj g ∨ v7.ownBlock = some g) ∨ (Value.slice x9 (N - 1) c9).ownBlock = some g, ?_, ?_, HC7.out.trans HCT.out (fun i h => .inl h), fun g h => .inl (.inl (HUP.out g h)), ?_, ?_, HRT.out, ?_, ?_⟩
        · rw [HLE.out, List.length_append]
          simp
          omega
        · exact fun d hd => (List.mem_append.1 hd).elim (fun h => HSUB.out d (List.mem_of_mem_take h)) (fun h => HSUB.out d (List.mem_of_mem_drop h))
        · intro g' h
          rcases h with (h | h) | h
          · exact HDN.out g' h
          · exact .inr (HOV7.out g' h)
          · exact .inr (Nat.le_trans (HC7.out.size) (h9.out g' h))
        · intro g' h
          refine ⟨.inl (.inr h), fun h' => ?_⟩
          have h1 := h9.out g' h'
          have h2 := HRA7.out.msl g' (.inr h)
          omega
        · exact ⟨HOUT7.out.len, HCT.out.own HOUT7.out.own (fun g' e h => by have := HOV7.out g' e; omega), fun i hi => (HOUT7.out.its i hi).chg HCT.out (fun i _ h => by rw [h]; exact HRA7.out.mine) (fun i hi h => h.elim (fun h => h) (fun h => absurd hi (Nat.not_lt.mpr (h9.out i h)))), HOUT7.out.one⟩
        · rw [HSO.out, HSTEP.out]
          simp
      case measure =>
        rw [HML.out, HMLT.out]
        omega

end Go.Proofs.Ytikkmdbaekdolaa

/- two ways and their two references, side by side: what one step of one leaves of the others (the plain part of PathForks). -/
namespace Go.Proofs.Ytikkmdbaekdolaa
open Go.RowKit Go.Lib
set_option linter.unusedVariables false
set_option maxRecDepth 100000

/-- the blocks that are an object's own -/
def foot (o : Nat) (v : Value) (g : Nat) : Prop := g = o ∨ v.ownBlock = some g

section
variable {w w' : World} {ms ms' : Nat → Prop} {P R Q S : Nat} {xf x0 xq xs : Option Addr} {cf c0 cq cs : Nat} {fl : List FateP} {n m : Int} {vp vr vq vs v4 : Value} {lp lr lq ls l4 : List Itm} {F F' G : Nat → Prop}

theorem disj_new {B : Nat} (h : ∀ g, F g → ¬ G g) (ho : ∀ g, F' g → F g ∨ B ≤ g) (hG : ∀ g, G g → g < B) : ∀ g, F' g → ¬ G g := fun g e k => (ho g e).elim (fun e => h g e k) (fun e => absurd (hG g k) (Nat.not_lt.mpr e))
theorem disj_sym (h : ∀ g, F g → ¬ G g) : ∀ g, G g → ¬ F g := fun g e k => h g k e
theorem foot_new {o B : Nat} (ho : ∀ g, v4.ownBlock = some g → vp.ownBlock = some g ∨ B ≤ g) : ∀ g, foot o v4 g → foot o vp g ∨ B ≤ g := fun g e => e.elim (fun e => .inl (.inl e)) (fun e => (ho g e).elim (fun e => .inl (.inr e)) .inr)
theorem PipeAt.foot (h : PipeAt w ms P xf cf fl n vp lp) : ∀ g, foot P vp g → ms g := fun g e => e.elim (fun e => by rw [e]; exact h.mine) (fun e => (h.vms g e).1)
theorem RefAt.foot (h : RefAt w ms R x0 c0 fl n vr lr) : ∀ g, foot R vr g → ms g := fun g e => e.elim (fun e => by rw [e]; exact h.mine) (fun e => (h.vms g e).1)
theorem PipeAt.footL (h : PipeAt w ms P xf cf fl n vp lp) : ∀ g, Go.Proofs.Ytikkmdbaekdolaa.foot P vp g → g < w.heap.size := fun g e => h.msl g (h.foot g e)
theorem RefAt.footL (h : RefAt w ms R x0 c0 fl n vr lr) : ∀ g, Go.Proofs.Ytikkmdbaekdolaa.foot R vr g → g < w.heap.size := fun g e => h.msl g (h.foot g e)
theorem PipeAt.far (h : PipeAt w ms P xf cf fl n vp lp) (k : Chg F w w') (hF : ∀ g, F g → ms g) (hd : ∀ g, F g → ¬ Go.Proofs.Ytikkmdbaekdolaa.foot P vp g) (up : ∀ g, ms g → ms' g) (dn : ∀ g, ms' g → ms g ∨ w.heap.size ≤ g) (hm : MsL w' ms') : PipeAt w' ms' P xf cf fl n vp lp :=
  h.chg k (fun e => hd P e (.inl rfl)) (fun g e hF' => hd g hF' (.inr e)) (fun i _ => hF i) (fun i hi e => (dn i e).elim (fun e => e) (fun e => absurd hi (Nat.not_lt.mpr e))) up hm
theorem RefAt.far (h : RefAt w ms R x0 c0 fl n vr lr) (k : Chg F w w') (hF : ∀ g, F g → ms g) (hd : ∀ g, F g → ¬ Go.Proofs.Ytikkmdbaekdolaa.foot R vr g) (up : ∀ g, ms g → ms' g) (dn : ∀ g, ms' g → ms g ∨ w.heap.size ≤ g) (hm : MsL w' ms') : RefAt w' ms' R x0 c0 fl n vr lr :=
  h.chg k (fun e => hd R e (.inl rfl)) (fun g e hF' => hd g hF' (.inr e)) (fun i _ => hF i) (fun i hi e => (dn i e).elim (fun e => e) (fun e => absurd hi (Nat.not_lt.mpr e))) up hm

/-- a way and its reference -/
structure Duo (w : World) (ms : Nat → Prop) (P R : Nat) (xf x0 : Option Addr) (cf c0 : Nat) (fl : List FateP) (n m : Int) (vp vr : Value) (lp lr : List Itm) : Prop where
  p : PipeAt w ms P xf cf fl n vp lp
  r : RefAt w ms R x0 c0 fl m vr lr
  d : ∀ g, foot P vp g → ¬ foot R vr g
theorem Duo.far (h : Duo w ms P R xf x0 cf c0 fl n m vp vr lp lr) (k : Chg F w w') (hF : ∀ g, F g → ms g) (hp : ∀ g, F g → ¬ foot P vp g) (hr : ∀ g, F g → ¬ foot R vr g) (up : ∀ g, ms g → ms' g) (dn : ∀ g, ms' g → ms g ∨ w.heap.size ≤ g) (hm : MsL w' ms') : Duo w' ms' P R xf x0 cf c0 fl n m vp vr lp lr := ⟨h.p.far k hF hp up dn hm, h.r.far k hF hr up dn hm, h.d⟩
theorem Duo.stepP {n4 : Int} (h : Duo w ms P R xf x0 cf c0 fl n m vp vr lp lr) (k : Chg (foot P vp) w w') (ho : ∀ g, v4.ownBlock = some g → vp.ownBlock = some g ∨ w.heap.size ≤ g) (up : ∀ g, ms g → ms' g) (dn : ∀ g, ms' g → ms g ∨ w.heap.size ≤ g) (A : PipeAt w' ms' P xf cf fl n4 v4 l4) : Duo w' ms' P R xf x0 cf c0 fl n4 m v4 vr l4 lr :=
  ⟨A, h.r.far k h.p.foot h.d up dn A.msl, disj_new h.d (foot_new ho) h.r.footL⟩
theorem Duo.stepR {n4 : Int} (h : Duo w ms P R xf x0 cf c0 fl n m vp vr lp lr) (k : Chg (foot R vr) w w') (ho : ∀ g, v4.ownBlock = some g → vr.ownBlock = some g ∨ w.heap.size ≤ g) (up : ∀ g, ms g → ms' g) (dn : ∀ g, ms' g → ms g ∨ w.heap.size ≤ g) (A : RefAt w' ms' R x0 c0 fl n4 v4 l4) : Duo w' ms' P R xf x0 cf c0 fl n n4 vp v4 lp l4 :=
  ⟨h.p.far k h.r.foot (disj_sym h.d) up dn A.msl, A, disj_sym (disj_new (disj_sym h.d) (foot_new ho) h.p.footL)⟩
/-- and what was forked of both -/
structure Four (w : World) (ms : Nat → Prop) (P R Q S : Nat) (xf x0 xq xs : Option Addr) (cf c0 cq cs : Nat) (fl : List FateP) (n m : Int) (nq nr : Int) (vp vr vq vs : Value) (lp lr lq ls : List Itm) : Prop where
  a : Duo w ms P R xf x0 cf c0 fl n m vp vr lp lr
  b : Duo w ms Q S xq xs cq cs fl nq nr vq vs lq ls
  pq : ∀ g, foot Q vq g → ¬ foot P vp g
  rq : ∀ g, foot Q vq g → ¬ foot R vr g
  ps : ∀ g, foot S vs g → ¬ foot P vp g
  rs : ∀ g, foot S vs g → ¬ foot R vr g
theorem Four.far {nq nr : Int} (h : Four w ms P R Q S xf x0 xq xs cf c0 cq cs fl n m nq nr vp vr vq vs lp lr lq ls) (k : Chg (fun _ => False) w w') (up : ∀ g, ms g → ms' g) (dn : ∀ g, ms' g → ms g ∨ w.heap.size ≤ g) (hm : MsL w' ms') : Four w' ms' P R Q S xf x0 xq xs cf c0 cq cs fl n m nq nr vp vr vq vs lp lr lq ls :=
  ⟨h.a.far k (fun _ e => e.elim) (fun _ e => e.elim) (fun _ e => e.elim) up dn hm, h.b.far k (fun _ e => e.elim) (fun _ e => e.elim) (fun _ e => e.elim) up dn hm, h.pq, h.rq, h.ps, h.rs⟩
theorem Four.stepQ {nq nr n4 : Int} (h : Four w ms P R Q S xf x0 xq xs cf c0 cq cs fl n m nq nr vp vr vq vs lp lr lq ls) (k : Chg (foot Q vq) w w') (ho : ∀ g, v4.ownBlock = some g → vq.ownBlock = some g ∨ w.heap.size ≤ g) (up : ∀ g, ms g → ms' g) (dn : ∀ g, ms' g → ms g ∨ w.heap.size ≤ g) (A : PipeAt w' ms' Q xq cq fl n4 v4 l4) : Four w' ms' P R Q S xf x0 xq xs cf c0 cq cs fl n m n4 nr vp vr v4 vs lp lr l4 ls :=
  ⟨h.a.far k h.b.p.foot h.pq h.rq up dn A.msl, h.b.stepP k ho up dn A, disj_new h.pq (foot_new ho) h.a.p.footL, disj_new h.rq (foot_new ho) h.a.r.footL, h.ps, h.rs⟩
theorem Four.stepS {nq nr n4 : Int} (h : Four w ms P R Q S xf x0 xq xs cf c0 cq cs fl n m nq nr vp vr vq vs lp lr lq ls) (k : Chg (foot S vs) w w') (ho : ∀ g, v4.ownBlock = some g → vs.ownBlock = some g ∨ w.heap.size ≤ g) (up : ∀ g, ms g → ms' g) (dn : ∀ g, ms' g → ms g ∨ w.heap.size ≤ g) (A : RefAt w' ms' S xs cs fl n4 v4 l4) : Four w' ms' P R Q S xf x0 xq xs cf c0 cq cs fl n m nq n4 vp vr vq v4 lp lr lq l4 :=
  ⟨h.a.far k h.b.r.foot h.ps h.rs up dn A.msl, h.b.stepR k ho up dn A, h.pq, h.rq, disj_new h.ps (foot_new ho) h.a.p.footL, disj_new h.rs (foot_new ho) h.a.r.footL⟩
theorem ListO.far {B : Nat} {v : Value} {L : List (List Int)} (h : ListO w B ms v L) (k : Chg F w w') (hF : ∀ g, F g → ms g) (hv : ∀ g, v.ownBlock = some g → ¬ F g) : ListO w' B ms v L := by
  obtain ⟨us, h1, h2, h3, h4⟩ := h.own
  exact ⟨us, h1, k.own h2 hv, fun i hi => (h3 i hi).chg k (fun i _ e => .inl (hF i e)) (fun _ _ e => e), h4⟩
theorem ListO.ge {B : Nat} {v : Value} {L : List (List Int)} (h : ListO w B ms v L) : ∀ g, v.ownBlock = some g → B ≤ g := by
  obtain ⟨us, h1, h2, h3, h4⟩ := h.own
  exact fun g e => (h2.lt g e).1
end

/-! ### lists -/
theorem markF_len2 (bs : List Int) (hb : ∀ x ∈ bs, 0 ≤ x ∧ x ≤ 255) : (markF bs).length = bs.length := by
  unfold markF
  split
  · rename_i h
    obtain ⟨hm, he⟩ := getF_ok bs hb (getF bs).2 (by rw [← h])
    have : (putD (markD (getF bs).2)).length = (putD (getF bs).2).length := by simp [putD, markD]
    rw [this, he]
  · rfl
theorem rputS_len (fl : List FateP) (n : Nat) (L : List (Int × List Int)) (now : Int) (bs : List Int) : (rputS fl n L now bs).length ≤ L.length + 2 := by
  unfold rputS
  dsimp only
  split
  · omega
  · split <;> simp
theorem rputS_ok (fl : List FateP) (n : Nat) (L : List (Int × List Int)) (now : Int) (bs : List Int) (hb : ∀ x ∈ bs, 0 ≤ x ∧ x ≤ 255) (M : Nat) (h1 : bs.length ≤ M) (h2 : ∀ p ∈ L, p.2.length ≤ M) : ∀ p ∈ rputS fl n L now bs, p.2.length ≤ M := by
  have hx : ((if (fl.getD n zF).mark = true then markF bs else bs) : List Int).length ≤ M := by
    split
    · rw [markF_len2 bs hb]; exact h1
    · exact h1
  intro p hp
  unfold rputS at hp
  dsimp only at hp
  split at hp
  · exact h2 p hp
  · split at hp
    · simp only [List.mem_append, List.mem_singleton] at hp
      rcases hp with (hp | rfl) | rfl
      · exact h2 p hp
      · exact hx
      · exact hx
    · simp only [List.mem_append, List.mem_singleton] at hp
      rcases hp with hp | rfl
      · exact h2 p hp
      · exact hx
theorem sortS_mem {L : List (Int × List Int)} {p : Int × List Int} (h : p ∈ sortS L) : p ∈ L := (fold_mem L [] p h).elim (fun h => by cases h) (fun h => h)
/-- what the way holds is what the reference holds, in order -/
structure Alike (lp lr : List Itm) (K : Nat) : Prop where
  eq : lp.map pr = sortS (lr.map pr)
  len : lr.length ≤ K
  ok : ∀ p ∈ lr.map pr, p.2.length ≤ 140737488351232
theorem Alike.lenP {lp lr : List Itm} {K : Nat} (h : Alike lp lr K) : lp.length ≤ K := by
  have e := congrArg List.length h.eq
  rw [List.length_map, sortS_len, List.length_map] at e
  have := h.len
  omega
theorem Alike.okP {lp lr : List Itm} {K : Nat} (h : Alike lp lr K) : ∀ d ∈ lp, d.bs.length ≤ 140737488351232 := fun d hd => h.ok (pr d) (sortS_mem (by rw [← h.eq]; exact List.mem_map.2 ⟨d, hd, rfl⟩))
theorem Alike.okR {lp lr : List Itm} {K : Nat} (h : Alike lp lr K) : ∀ d ∈ lr, d.bs.length ≤ 140737488351232 := fun d hd => h.ok (pr d) (List.mem_map.2 ⟨d, hd, rfl⟩)
theorem Alike.nil : Alike [] [] 0 := ⟨rfl, Nat.le_refl _, fun p h => by cases h⟩
theorem Alike.put {fl : List FateP} {n K : Nat} {now : Int} {bs : List Int} {lp lr l4 r4 : List Itm} (h : Alike lp lr K) (hb : ∀ x ∈ bs, 0 ≤ x ∧ x ≤ 255) (hl : bs.length ≤ 140737488351232) (e1 : l4.map pr = putS fl n (lp.map pr) now bs) (e2 : r4.map pr = rputS fl n (lr.map pr) now bs) : Alike l4 r4 (K + 2) where
  eq := by rw [e1, e2, h.eq, rputS_sort]
  len := by
    have e := congrArg List.length e2
    rw [List.length_map] at e
    have := rputS_len fl n (lr.map pr) now bs
    rw [List.length_map] at this
    have := h.len
    omega
  ok := by
    rw [e2]
    exact rputS_ok fl n _ now bs hb _ hl h.ok
theorem Alike.bs {lp lr : List Itm} {K : Nat} (h : Alike lp lr K) : (sortS (lr.map pr)).map (·.2) = lp.map (·.bs) := by
  rw [← h.eq, List.map_map]
  rfl
theorem comeTop : ∀ (l : List Itm), (∀ d ∈ l, W64 d.at_) → comeN l 18446744073709551615 = l.length
  | [], _ => rfl
  | d :: l, h => by
    have hd := h d (List.mem_cons_self ..)
    unfold W64 at hd
    unfold comeN
    rw [if_pos (by omega), comeTop l (fun x hx => h x (List.mem_cons_of_mem _ hx)), List.length_cons]
theorem body_lt2 {w : World} {v : Value} {bs : List Int} (h : BodyAt w v bs) (hne : bs ≠ []) : ∀ g, v.ownBlock = some g → g < w.heap.size := by
  rcases h with ⟨x, c, e, _, h⟩ | ⟨g, o, c, rfl, l1, l2, l3, b1, b2⟩
  · exact absurd h hne
  · intro g' e
    have : g = g' := by simpa [Value.ownBlock] using e
    subst this
    exact b1

end Go.Proofs.Ytikkmdbaekdolaa

