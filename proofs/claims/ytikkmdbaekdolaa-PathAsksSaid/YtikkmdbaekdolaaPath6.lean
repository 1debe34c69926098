/- the examples of the document, chapter 28: alive returns true. -/
import Derived.Test.YtikkmdbaekdolaaPath5
import Derived.Lib.SlBytesConst
namespace Go.Proofs.Ytikkmdbaekdolaa
open Go.RowKit Go.Lib
set_option linter.unusedVariables false
set_option maxRecDepth 100000

theorem fates2 {w : World} {g : Nat} (h : RowIs w g 119 #[.bool true, .bool false, .bool false, .int .u64 0, .bool false, .bool true, .bool false, .int .u64 9]) : FAt w g 0 [⟨true, false, false, 0⟩, ⟨false, true, false, 9⟩] := by
  refine ⟨h.lt, fun i hi => ?_⟩
  rcases (by simp at hi; omega : i = 0 ∨ i = 1) with rfl | rfl
  · exact ⟨h.cell 0, h.cell 1, h.cell 2, h.cell 3⟩
  · exact ⟨h.cell 4, h.cell 5, h.cell 6, h.cell 7⟩
theorem byte1 {w : World} {g : Nat} {b : Int} {t : TypeId} {fr : Nat × Nat} (h : w.heap[g]? = some (.cells #[.int .u8 b] t fr)) : BodyAt w (.slice (some ⟨g, 0, none⟩) 1 1) [b] :=
  .inr ⟨g, 0, 1, rfl, by simp, by simp, by omega, (Array.getElem?_eq_some_iff.1 h).1, fun i hi => by
    have : i = 0 := by simp at hi; omega
    subst this
    exact cell_of_row w g 0 _ _ _ h⟩
theorem map2 {l : List Itm} {a b : Int × List Int} (h : l.map pr = [a, b]) : ∃ d1 d2, l = [d1, d2] ∧ d1.at_ = a.1 ∧ d1.bs = a.2 ∧ d2.at_ = b.1 ∧ d2.bs = b.2 := by
  rcases l with _ | ⟨d1, _ | ⟨d2, _ | ⟨d3, l⟩⟩⟩
  · simp at h
  · simp at h
  · simp [pr] at h
    obtain ⟨rfl, rfl⟩ := h
    exact ⟨d1, d2, rfl, rfl, rfl, rfl, rfl⟩
  · simp at h

set_option maxHeartbeats 16000000 in
theorem alivePath (w : World) : Calls Try.prog 24 #[] w fun e w' => e = .returned (.bool true) ∧ Below w.heap.size w w' := by
  have kc := fun (w : World) (C : Array Value) (n c : Nat) => Lib.run_convert_bytes_const (P := Try.prog) w 44 5 C n c Try.underlying44 Try.underlying5
  go_enter Try.func24, Try.ntmps24
  go_wp2_with fail
  obtain ⟨w1, hw1⟩ : ∃ w1, w1 = w.alloc (.cells #[.bool true, .bool false, .bool false, .int .u64 0, .bool false, .bool true, .bool false, .int .u64 9] 119 (0, 0)) := ⟨_, rfl⟩
  have r1 : RowIs w1 w.heap.size 119 #[.bool true, .bool false, .bool false, .int .u64 0, .bool false, .bool true, .bool false, .int .u64 9] := by rw [hw1]; exact RowIs.mk (heap_alloc_new w _)
  have b1 : Below w.heap.size w w1 := by rw [hw1]; exact (Below.refl _ _).alloc (Nat.le_refl _) _
  rw [← hw1]
  clear hw1
  ((refine (pNew (fun _ => False) (some ⟨w.heap.size, 0, none⟩) 2 [⟨true, false, false, 0⟩, ⟨false, true, false, 9⟩] (fun h => by cases h) (by simp) w1 (fun _ h => h.elim) (.inr ⟨w.heap.size, 0, rfl, fates2 r1⟩)).mono ?_); rintro e' w2 ⟨P, xf, cf, rfl, b2, hP, PA⟩)
  have c2 := b1.trans (b2.mono b1.size)
  have PA := PA.chg (Chg.refl (fun _ => False) _) (fun h => h) (fun _ _ h => h) (fun _ _ h => h.elim) (ms' := fun g => g = P) (fun i _ h => .inr h) (fun i h => h.elim (fun h => h.elim) (fun h => h)) (fun g h => PA.msl g (.inr h))
  have kc1 := kc w2 #[.int .u8 97] 1 1
  have s2 := b1.size
  have hPl := PA.row.lt
  have hPw : w.heap.size ≤ P := by omega
  clear b2 r1
  go_wp2_with fail
  obtain ⟨wBa, hwBa⟩ : ∃ wB, wB = w2.alloc (.cells #[.int .u8 97] 5 (1, 2)) := ⟨_, rfl⟩
  have KBa : Chg (fun _ => False) w2 wBa := by rw [hwBa]; exact Chg.alloc _ _
  have PBa := PipeAt.same PA KBa
  have BBa : BodyF wBa (fun g => g = P) (.slice (some ⟨w2.heap.size, 0, none⟩) 1 1) [97] := ⟨by rw [hwBa]; exact byte1 (heap_alloc_new w2 _), fun _ g e => by
    have e' : w2.heap.size = g := by simpa [Value.ownBlock] using e
    subst e'; exact fun h => absurd (PipeAt.msl PA _ h) (Nat.lt_irrefl _)⟩
  rw [← hwBa]
  clear hwBa
  ((refine (pPut (fun g => g = P) P xf cf [⟨true, false, false, 0⟩, ⟨false, true, false, 9⟩] 0 (.slice none 0 0) [] _ 1 1 [97] 1 (by simp) (by simp) (Wlit (by omega)) (fun d hd => by simp at hd; rcases hd with rfl | rfl <;> exact Wlit (by simp)) (by simp) (by omega) (by simp) wBa PBa BBa).mono ?_); rintro e' wCa ⟨rfl, vCa, lCa, mCa, KCa, oCa, uCa, dCa, PCa, eCa⟩)
  have mw1 : ∀ g, mCa g → w.heap.size ≤ g := fun g h => (dCa g h).elim (fun h => by rw [h]; exact hPw) (fun h => by have := KBa.size; have := c2.size; omega)
  have cCa : Below w.heap.size w wCa := c2.trans (((KBa.mono (fun i _ h => h.elim)).trans KCa (ms := fun i => i = P) (fun i h => h.elim .inl (fun h => by cases h))).below c2.size (fun i h => by omega))
  have hl0 : lCa = [] := by
    have e : lCa.map pr = [] := eCa.trans (by kernel_rfl)
    simpa using e
  subst hl0
  obtain ⟨xa, ca, hva⟩ := own_slice PCa.own
  subst hva
  have kc2 := kc wCa #[.int .u8 98] 1 1
  have RCa := PCa.row
  clear kc1 eCa BBa PBa KBa KCa uCa oCa dCa PA
  go_wp2_with fail
  ((refine (pWaits P _ _ xa 0 ca (by omega) wCa RCa).mono ?_); rintro e' w' ⟨rfl, rfl⟩)
  go_wp2_with fail
  obtain ⟨wBb, hwBb⟩ : ∃ wB, wB = wCa.alloc (.cells #[.int .u8 98] 5 (1, 2)) := ⟨_, rfl⟩
  have KBb : Chg (fun _ => False) wCa wBb := by rw [hwBb]; exact Chg.alloc _ _
  have PBb := PipeAt.same PCa KBb
  have BBb : BodyF wBb mCa (.slice (some ⟨wCa.heap.size, 0, none⟩) 1 1) [98] := ⟨by rw [hwBb]; exact byte1 (heap_alloc_new wCa _), fun _ g e => by
    have e' : wCa.heap.size = g := by simpa [Value.ownBlock] using e
    subst e'; exact fun h => absurd (PipeAt.msl PCa _ h) (Nat.lt_irrefl _)⟩
  rw [← hwBb]
  clear hwBb
  ((refine (pPut mCa P xf cf [⟨true, false, false, 0⟩, ⟨false, true, false, 9⟩] 1 (.slice xa 0 ca) [] _ 1 1 [98] 1 (by simp) (by simp) (Wlit (by omega)) (fun d hd => by simp at hd; rcases hd with rfl | rfl <;> exact Wlit (by simp)) (by simp) (by omega) (by simp) wBb PBb BBb).mono ?_); rintro e' wCb ⟨rfl, vCb, lCb, mCb, KCb, oCb, uCb, dCb, PCb, eCb⟩)
  obtain ⟨d1, d2, rfl, hd1, hd1b, hd2, hd2b⟩ := map2 (a := (10, [98])) (b := (10, [98])) (eCb.trans (by kernel_rfl))
  obtain ⟨xb, cb, rfl, RDb⟩ := PCb.rd
  simp only [] at hd1 hd1b hd2 hd2b
  have cCb : Below w.heap.size w wCb := cCa.trans (((KBb.mono (fun i _ h => h.elim)).trans KCb (ms := fun i => w.heap.size ≤ i) (fun i h => .inl (h.elim (fun h => by rw [h]; exact hPw) (fun h => mw1 i (PCa.vms i h).1)))).below cCa.size (fun i h => h))
  have F1 := pFirst P _ _ xb cb [d1, d2] (by simp) wCb RDb.row RDb.it
  simp [hd1] at F1
  have F2 := pCome mCb P _ _ xb cb [d1, d2] 9 (by simp) (fun d hd => by simp at hd; rcases hd with rfl | rfl <;> simp [hd1b, hd2b]) wCb PCb.msl RDb
  rw [show comeN [d1, d2] 9 = 0 by simp [comeN, hd1]] at F2
  simp only [List.drop_zero, List.take_zero, List.map_nil] at F2
  clear kc2 BBb PBb KBb eCb
  go_wp2_with fail
  ((refine F1.mono ?_); rintro e' w' ⟨rfl, rfl⟩)
  go_wp2_with fail
  ((refine F2.mono ?_); rintro e' w3 ⟨v3, x3, c3, rfl, K3, RD3, L3⟩)
  obtain ⟨xl, cl, hv3, hcl1, hcl2, _⟩ := L3.lst
  simp only [List.length_nil] at hv3
  subst hv3
  have ms3 : MsL w3 mCb := fun g h => Nat.lt_of_lt_of_le (PCb.msl g h) K3.size
  have F3 := pCome mCb P _ _ x3 c3 [d1, d2] 10 (by simp) (fun d hd => by simp at hd; rcases hd with rfl | rfl <;> simp [hd1b, hd2b]) w3 ms3 RD3
  rw [show comeN [d1, d2] 10 = 2 by simp [comeN, hd1, hd2]] at F3
  simp [hd1b, hd2b] at F3
  have c3' : Below w.heap.size w w3 := cCb.trans (K3.below cCb.size (fun i h => by omega))
  clear F2 F1
  go_wp2_with fail
  ((refine F3.mono ?_); rintro e' w4 ⟨v4, rfl, K4, ⟨x4, c4, RD4⟩, L4⟩)
  have c4' : Below w.heap.size w w4 := c3'.trans (K4.below c3'.size (fun i h => by omega))
  obtain ⟨yl, yc, hv4, hy1, hy2, LA4⟩ := L4.lst
  simp only [List.length_cons, List.length_nil] at hv4
  subst hv4
  have kc5 := kc w4 #[.int .u8 98] 1 1
  have kc6 := kc (w4.alloc (.cells #[.int .u8 98] 5 (1, 2))) #[.int .u8 98] 1 1
  simp at kc6
  go_wp2_with fail
  obtain ⟨wA, hwA⟩ : ∃ x, x = w4.alloc (.cells #[.int .u8 98] 5 (1, 2)) := ⟨_, rfl⟩
  rw [← hwA]
  obtain ⟨wB, hwB⟩ : ∃ x, x = wA.alloc (.cells #[.int .u8 98] 5 (1, 2)) := ⟨_, rfl⟩
  rw [← hwB]
  obtain ⟨wC, hwC⟩ : ∃ x, x = wB.alloc (.cells #[.slice (some ⟨w4.heap.size, 0, none⟩) 1 1, .slice (some ⟨w4.heap.size + 1, 0, none⟩) 1 1] 44) := ⟨_, rfl⟩
  rw [← hwC]
  have sA : wA.heap.size = w4.heap.size + 1 := by rw [hwA]; simp
  have sB : wB.heap.size = w4.heap.size + 1 + 1 := by rw [hwB]; simp [sA]
  have bA : Below w4.heap.size w4 wA := by rw [hwA]; exact (Below.refl _ _).alloc (Nat.le_refl _) _
  have bB : Below w4.heap.size wA wB := by rw [hwB]; exact (Below.refl _ _).alloc (by omega) _
  have bB' : Below wA.heap.size wA wB := by rw [hwB]; exact (Below.refl _ _).alloc (by omega) _
  have bC : Below wB.heap.size wB wC := by rw [hwC]; exact (Below.refl _ _).alloc (by omega) _
  have y1 : BodyAt wC (.slice (some ⟨w4.heap.size, 0, none⟩) 1 1) [98] := ((show BodyAt wA (.slice (some ⟨w4.heap.size, 0, none⟩) 1 1) [98] by rw [hwA]; exact byte1 (heap_alloc_new w4 _)).below bB').below bC
  have y2 : BodyAt wC (.slice (some ⟨w4.heap.size + 1, 0, none⟩) 1 1) [98] := (show BodyAt wB (.slice (some ⟨w4.heap.size + 1, 0, none⟩) 1 1) [98] by rw [← sA, hwB]; exact byte1 (heap_alloc_new wA _)).below bC
  have rC : RowIs wC wB.heap.size 44 #[.slice (some ⟨w4.heap.size, 0, none⟩) 1 1, .slice (some ⟨w4.heap.size + 1, 0, none⟩) 1 1] := by rw [hwC]; exact RowIs.mk (heap_alloc_new wB _)
  rw [sB] at rC
  have LC : LstAt wC (some ⟨w4.heap.size + 1 + 1, 0, none⟩) [[98], [98]] := .inr ⟨_, 0, [.slice (some ⟨w4.heap.size, 0, none⟩) 1 1, .slice (some ⟨w4.heap.size + 1, 0, none⟩) 1 1], rfl, rC.lt, rfl, fun i hi => by
    rcases (by simp at hi; omega : i = 0 ∨ i = 1) with rfl | rfl
    · exact ⟨rC.cell 0, y1⟩
    · exact ⟨rC.cell 1, y2⟩⟩
  have b4C : Below w4.heap.size w4 wC := (bA.trans bB).trans (bC.mono (by omega))
  ((refine (rSameLists yl _ yc 2 [[98], [98]] (by simp) hy1 (by simp) wC (LA4.below b4C) LC).mono ?_); rintro e' w5 ⟨rfl, b5⟩)
  have b45 : Below w4.heap.size w4 w5 := b4C.trans (b5.mono b4C.size)
  have r5 := RD4.row.bel b45
  have c5 := c4'.trans (b45.mono c4'.size)
  have F5 := pFirst P _ _ x4 c4 [] (by simp) w5 r5 (.inl rfl)
  simp at F5
  clear hwA hwB hwC LC LA4 rC y1 y2
  go_wp2_with fail
  ((refine (pCount P _ _ _ w5 r5).mono ?_); rintro e' w' ⟨rfl, rfl⟩)
  go_wp2_with fail
  ((refine F5.mono ?_); rintro e' w' ⟨rfl, rfl⟩)
  go_wp2_with fail
  go_ret
  exact ⟨rfl, c5⟩

end Go.Proofs.Ytikkmdbaekdolaa
