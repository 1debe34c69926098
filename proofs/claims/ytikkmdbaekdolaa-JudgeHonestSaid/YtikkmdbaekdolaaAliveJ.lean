/- The examples of the document, chapter 30: alive returns true. -/
import Derived.Test.YtikkmdbaekdolaaJudge
import Derived.Test.YtikkmdbaekdolaaJgA
import Derived.Test.YtikkmdbaekdolaaJgC
import Derived.Test.YtikkmdbaekdolaaConf0
import Derived.Outline
import Derived.Lib.SlBytesConst
namespace Go.Proofs.Ytikkmdbaekdolaa
open Go.RowKit Go.Lib
set_option linter.unusedVariables false
set_option maxRecDepth 100000

theorem fit3 (a b c : Option Addr) : CFit [⟨3, 0, 0, 0, 3, a, 2, 2⟩, ⟨3, 0, 0, 0, 0, b, 1, 1⟩, ⟨4, 0, 0, 0, 2, c, 1, 1⟩] := by
  intro i hi
  rcases (by simp at hi; omega : i = 0 ∨ i = 1 ∨ i = 2) with rfl | rfl | rfl
  · exact ⟨(Wlit (by omega) : W64 3), (by omega : 2 ≤ 9223372036854775807)⟩
  · exact ⟨(Wlit (by omega) : W64 3), (by omega : 1 ≤ 9223372036854775807)⟩
  · exact ⟨(Wlit (by omega) : W64 4), (by omega : 1 ≤ 9223372036854775807)⟩
theorem came3 {w : World} {g : Nat} {a b c : Option Addr} (h : RowIs w g 82 #[.int .u64 3, .int .u64 0, .int .u64 0, .int .u64 0, .int .i64 3, .slice a 2 2, .int .u64 3, .int .u64 0, .int .u64 0, .int .u64 0, .int .i64 0, .slice b 1 1, .int .u64 4, .int .u64 0, .int .u64 0, .int .u64 0, .int .i64 2, .slice c 1 1]) :
    CameAt w g 0 [⟨3, 0, 0, 0, 3, a, 2, 2⟩, ⟨3, 0, 0, 0, 0, b, 1, 1⟩, ⟨4, 0, 0, 0, 2, c, 1, 1⟩] := by
  refine ⟨h.lt, fun i hi => ?_⟩
  rcases (by simp at hi; omega : i = 0 ∨ i = 1 ∨ i = 2) with rfl | rfl | rfl
  · exact ⟨h.cell 0, h.cell 1, h.cell 2, h.cell 3, h.cell 4, h.cell 5⟩
  · exact ⟨h.cell 6, h.cell 7, h.cell 8, h.cell 9, h.cell 10, h.cell 11⟩
  · exact ⟨h.cell 12, h.cell 13, h.cell 14, h.cell 15, h.cell 16, h.cell 17⟩
theorem jBytes3 (g : Nat) (a b c : Option Addr) (w : World) (h : CameAt w g 0 [⟨3, 0, 0, 0, 3, a, 2, 2⟩, ⟨3, 0, 0, 0, 0, b, 1, 1⟩, ⟨4, 0, 0, 0, 2, c, 1, 1⟩]) :
    Calls Try.prog 47 #[.slice (some ⟨g, 0, none⟩) 3 3] w fun e w' => e = .returned (.int .u64 3) ∧ Below w.heap.size w w' :=
  (jBytes (some ⟨g, 0, none⟩) 3 [⟨3, 0, 0, 0, 3, a, 2, 2⟩, ⟨3, 0, 0, 0, 0, b, 1, 1⟩, ⟨4, 0, 0, 0, 2, c, 1, 1⟩] (fit3 _ _ _) (by simp) w (.inr ⟨g, 0, rfl, h⟩)).mono fun e w' h => ⟨h.1.trans (by kernel_rfl), h.2⟩
theorem span1 {w : World} {g : Nat} {a b : Int} (h : RowIs w g 80 #[.int .u64 a, .int .u64 b]) : SpansAt w g 0 [(a, b)] := by
  refine ⟨h.lt, fun i hi => ?_⟩
  have : i = 0 := by simp at hi; omega
  subst this
  exact ⟨h.cell 0, h.cell 1⟩
theorem good1 (a b : Int) (h : rightS (a, b)) : goodAll [(a, b)] := by
  intro i hi
  have : i = 0 := by simp at hi; omega
  subst this
  exact ⟨h, fun h => by omega⟩
theorem may34 : mayRows [(3, 4)] [(3, 3)] :=
  ⟨by simp, by simp, by simp, good1 _ _ ⟨by decide, by decide⟩, good1 _ _ ⟨by decide, by decide⟩, fun i hi => by
    have : i = 0 := by simp at hi; omega
    subst this
    exact ⟨0, by simp, by decide, by decide⟩⟩
theorem hon3yes (a b c : Option Addr) : honP [⟨3, 0, 0, 0, 3, a, 2, 2⟩, ⟨3, 0, 0, 0, 0, b, 1, 1⟩, ⟨4, 0, 0, 0, 2, c, 1, 1⟩] [(3, 4)] [(3, 3)] := by
  have hA : allC [⟨3, 0, 0, 0, 3, a, 2, 2⟩, ⟨3, 0, 0, 0, 0, b, 1, 1⟩, ⟨4, 0, 0, 0, 2, c, 1, 1⟩] 3 = [(3, 4)] := by kernel_rfl
  refine ⟨may34, fun j hj _ hs hb => ?_, good1 _ _ ⟨by decide, by decide⟩, ?_⟩
  · rcases (by simp at hj; omega : j = 0 ∨ j = 1 ∨ j = 2) with rfl | rfl | rfl
    · exact hb.2.2 ⟨0, by simp, (by omega : (3 : Int) ≤ 3), (by omega : (3 : Int) ≤ 3)⟩
    · exact absurd hb.1 (by decide : ¬ (0 : Int) = 3)
    · exact absurd hb.1 (by decide : ¬ (2 : Int) = 3)
  · show goodAll (allC _ 3) ∧ insideAll [(3, 4)] (allC _ 3)
    rw [hA]
    refine ⟨good1 3 4 ⟨by decide, by decide⟩, fun i hi => ?_⟩
    have : i = 0 := by simp at hi; omega
    subst this
    exact ⟨0, by decide, by decide, by decide⟩
theorem hon3no (a b c : Option Addr) : ¬ honP [⟨3, 0, 0, 0, 3, a, 2, 2⟩, ⟨3, 0, 0, 0, 0, b, 1, 1⟩, ⟨4, 0, 0, 0, 2, c, 1, 1⟩] [(3, 4)] [] := by
  rintro ⟨_, h, _⟩
  exact h 0 (by simp) (by omega : (3 : Int) ≤ 4611686018427387903) rfl ⟨rfl, ⟨0, by simp, (by omega : (3 : Int) ≤ 3), (by omega : (3 : Int) ≤ 4)⟩, fun ⟨j, hj, _⟩ => by simp at hj⟩

set_option maxHeartbeats 8000000 in
set_option maxRecDepth 100000 in
theorem aliveJ (w : World) : Calls Try.prog 39 #[] w fun e w' => e = .returned (.bool true) ∧ Below w.heap.size w w' := by
  have cC : ∀ (w : World), Calls Try.prog 16 #[.slice none 0 0] w fun e w' => e = .returned (.agg #[.int .i64 64, .int .u64 0, .int .i64 4, .int .u64 4611686018427387903, .int .i64 1, .int .u64 1, .int .u64 2, .int .u64 2, .int .u64 2, .int .i64 1, .int .u64 1, .int .u64 1, .int .u64 1, .int .u64 1, .int .u64 1, .int .i64 0, .int .u64 1]) ∧ Gr w w' :=
    fun w => (zConf none 0 0 (fun _ => 0) w ⟨by omega, .inl rfl⟩).mono fun e w' h => ⟨h.1.trans (by kernel_rfl), h.2⟩
  have HC := Lib.hid cC
  clear cC
  have kc := fun (w : World) (C : Array Value) (n c : Nat) => Lib.run_convert_bytes_const (P := Try.prog) w 44 5 C n c Try.underlying44 Try.underlying5
  go_enter Try.func39, Try.ntmps39
  go_wp2_with fail
  ((with_reducible refine (HC.out _).mono ?_); rintro e' w1 ⟨rfl, g1⟩)
  have GW : Below w.heap.size w w1 := g1.below
  obtain ⟨wA, hwA⟩ : ∃ wA, wA = w1.alloc (.cells #[.int .i64 64, .int .u64 0, .int .i64 4, .int .u64 4611686018427387903, .int .i64 1, .int .u64 1, .int .u64 2, .int .u64 2, .int .u64 2, .int .i64 1, .int .u64 1, .int .u64 1, .int .u64 1, .int .u64 1, .int .u64 1, .int .i64 0, .int .u64 1] 24 (0, 0)) := ⟨_, rfl⟩
  have GA : Below w.heap.size w wA := by rw [hwA]; exact GW.alloc GW.size _
  have r0 : RowIs wA w1.heap.size 24 #[.int .i64 64, .int .u64 0, .int .i64 4, .int .u64 4611686018427387903, .int .i64 1, .int .u64 1, .int .u64 2, .int .u64 2, .int .u64 2, .int .i64 1, .int .u64 1, .int .u64 1, .int .u64 1, .int .u64 1, .int .u64 1, .int .i64 0, .int .u64 1] := by rw [hwA]; exact RowIs.mk (heap_alloc_new w1 _)
  have kc1 := kc wA #[.int .u8 97, .int .u8 98] 2 2
  have kc2 := kc (wA.alloc (.cells #[.int .u8 97, .int .u8 98] 5 (2, 3))) #[.int .u8 120] 1 1
  have kc3 := kc ((wA.alloc (.cells #[.int .u8 97, .int .u8 98] 5 (2, 3))).alloc (.cells #[.int .u8 120] 5 (1, 2))) #[.int .u8 99] 1 1
  simp at kc1 kc2 kc3
  clear kc g1 GW
  have HWA := Lib.hid hwA
  clear hwA
  go_wp2_with (first | (refine wpList_store_newD rfl 24 _ _ rfl _ _ rfl rfl _ _ _ _ (by with_reducible rfl) (by first | (simp; done) | (simp; omega)) (by kernel_rfl) rfl (by first | kernel_rfl | simp [Value.oneCell'] | rfl) ?_) | (refine wpList_store_new rfl 24 _ _ rfl _ _ rfl rfl _ _ _ (by with_reducible rfl) (by first | (simp; done) | (simp; omega)) (by kernel_rfl) rfl (by first | kernel_rfl | simp [Value.oneCell'] | rfl) ?_) | (rw [← HWA.out]; skip))
  obtain ⟨n, hn⟩ : ∃ n, n = wA.heap.size := ⟨_, rfl⟩
  have hnw : w.heap.size ≤ n := by rw [hn]; exact GA.size
  have h1n : w1.heap.size < n := by rw [hn]; exact r0.lt
  obtain ⟨w5, hw5⟩ : ∃ w5, w5 = ((((((((wA.alloc (.cells #[.int .u8 97, .int .u8 98] 5 (2, 3))).alloc (.cells #[.int .u8 120] 5 (1, 2))).alloc (.cells #[.int .u8 99] 5 (1, 2))).alloc (.cells #[.int .u64 3, .int .u64 0, .int .u64 0, .int .u64 0, .int .i64 3, .slice (some ⟨wA.heap.size, 0, none⟩) 2 2, .int .u64 3, .int .u64 0, .int .u64 0, .int .u64 0, .int .i64 0, .slice (some ⟨wA.heap.size + 1, 0, none⟩) 1 1, .int .u64 4, .int .u64 0, .int .u64 0, .int .u64 0, .int .i64 2, .slice (some ⟨wA.heap.size + 1 + 1, 0, none⟩) 1 1] 82 (0, 0))).alloc (.cells #[.int .u64 3, .int .u64 4] 80 (0, 0))).alloc (.cells #[.slice (some ⟨wA.heap.size + 1 + 1 + 1 + 1, 0, none⟩) 1 1, .slice none 0 0, .int .u64 0, .int .u64 0, .bool false] 74 (0, 0))).alloc (.cells #[.int .u64 3, .int .u64 3] 80 (0, 0))).alloc (.cells #[.slice (some ⟨wA.heap.size + 1 + 1 + 1 + 1, 0, none⟩) 1 1, .slice (some ⟨wA.heap.size + 1 + 1 + 1 + 1 + 1 + 1, 0, none⟩) 1 1, .int .u64 0, .int .u64 0, .bool false] 74 (0, 0))) := ⟨_, rfl⟩
  have A5 : RowIs w5 (w1.heap.size) 24 #[.int .i64 64, .int .u64 0, .int .i64 4, .int .u64 4611686018427387903, .int .i64 1, .int .u64 1, .int .u64 2, .int .u64 2, .int .u64 2, .int .i64 1, .int .u64 1, .int .u64 1, .int .u64 1, .int .u64 1, .int .u64 1, .int .i64 0, .int .u64 1] ∧ RowIs w5 (n + 1 + 1 + 1) 82 #[.int .u64 3, .int .u64 0, .int .u64 0, .int .u64 0, .int .i64 3, .slice (some ⟨n, 0, none⟩) 2 2, .int .u64 3, .int .u64 0, .int .u64 0, .int .u64 0, .int .i64 0, .slice (some ⟨n + 1, 0, none⟩) 1 1, .int .u64 4, .int .u64 0, .int .u64 0, .int .u64 0, .int .i64 2, .slice (some ⟨n + 1 + 1, 0, none⟩) 1 1] ∧ RowIs w5 (n + 1 + 1 + 1 + 1) 80 #[.int .u64 3, .int .u64 4] ∧ RowIs w5 (n + 1 + 1 + 1 + 1 + 1) 74 #[.slice (some ⟨n + 1 + 1 + 1 + 1, 0, none⟩) 1 1, .slice none 0 0, .int .u64 0, .int .u64 0, .bool false] ∧ RowIs w5 (n + 1 + 1 + 1 + 1 + 1 + 1) 80 #[.int .u64 3, .int .u64 3] ∧ RowIs w5 (n + 1 + 1 + 1 + 1 + 1 + 1 + 1) 74 #[.slice (some ⟨n + 1 + 1 + 1 + 1, 0, none⟩) 1 1, .slice (some ⟨n + 1 + 1 + 1 + 1 + 1 + 1, 0, none⟩) 1 1, .int .u64 0, .int .u64 0, .bool false] := by
    rw [hw5, hn]
    refine ⟨?_, ?_, ?_, ?_, ?_, ?_⟩
    · exact RowIs.bel r0 (by repeat (first | with_reducible exact Below.refl _ _ | with_reducible apply below_drewN | with_reducible apply Below.drew | with_reducible refine Below.alloc ?_ (by first | exact Nat.le_refl _ | (simp; done) | (simp; omega)) _))
    · refine RowIs.mk ?_; repeat (first | (with_reducible refine heap_newS _ _ _ ?_; (first | (simp; done) | (simp; omega))) | with_reducible apply heap_allocS)
    · refine RowIs.mk ?_; repeat (first | (with_reducible refine heap_newS _ _ _ ?_; (first | (simp; done) | (simp; omega))) | with_reducible apply heap_allocS)
    · refine RowIs.mk ?_; repeat (first | (with_reducible refine heap_newS _ _ _ ?_; (first | (simp; done) | (simp; omega))) | with_reducible apply heap_allocS)
    · refine RowIs.mk ?_; repeat (first | (with_reducible refine heap_newS _ _ _ ?_; (first | (simp; done) | (simp; omega))) | with_reducible apply heap_allocS)
    · refine RowIs.mk ?_; repeat (first | (with_reducible refine heap_newS _ _ _ ?_; (first | (simp; done) | (simp; omega))) | with_reducible apply heap_allocS)
  have G5 : Below w.heap.size w w5 := by rw [hw5]; repeat (first | with_reducible exact GA | with_reducible apply below_drewN | with_reducible apply Below.drew | with_reducible refine Below.alloc ?_ (by have := Below.size GA; first | exact this | (simp; done) | (simp; omega)) _)
  have hsz5 : n + 7 < w5.heap.size := A5.2.2.2.2.2.lt
  rw [← hw5, ← hn]
  clear hw5 hn r0 GA kc1 kc2 kc3 HWA
  ((refine (jBytes0 none 0 _).mono ?_); rintro e' w6 ⟨rfl, b6⟩)
  skip
  have A6 := rowsBel6 A5 b6
  have G6 := Below.trans G5 (b6.mono G5.size)
  clear A5 G5 b6
  have r0 := A6.1; have r1 := A6.2.2.2.1; have r2 := A6.2.2.2.2.2; have r3 := r0; have r4 := r0
  go_wp2_with (first | (refine wpList_load_all (by rfl) 24 _ rfl _ rfl _ _ _ _ (by repeat (first | (with_reducible exact RowIs.un r0) | (with_reducible exact RowIs.un r1) | (with_reducible exact RowIs.un r2) | (with_reducible exact RowIs.un r3) | (with_reducible exact RowIs.un r4) | (with_reducible refine heap_newS _ _ _ ?_; (first | (simp; done) | (simp; omega))) | with_reducible apply heap_gwS | with_reducible apply heap_drewNS | with_reducible apply heap_drewS | with_reducible apply heap_allocS)) Try.underlying24 rfl (by kernel_rfl) ?_) | (refine wpList_load_all (by rfl) 74 _ rfl _ rfl _ _ _ _ (by repeat (first | (with_reducible exact RowIs.un r0) | (with_reducible exact RowIs.un r1) | (with_reducible exact RowIs.un r2) | (with_reducible exact RowIs.un r3) | (with_reducible exact RowIs.un r4) | (with_reducible refine heap_newS _ _ _ ?_; (first | (simp; done) | (simp; omega))) | with_reducible apply heap_gwS | with_reducible apply heap_drewNS | with_reducible apply heap_drewS | with_reducible apply heap_allocS)) Try.underlying74 rfl (by kernel_rfl) ?_))
  clear r0 r1 r2 r3 r4
  ((refine (jBytes3 (n + 1 + 1 + 1) _ _ _ _ (came3 A6.2.1)).mono ?_); rintro e' w7 ⟨rfl, b7⟩)
  skip
  have A7 := rowsBel6 A6 b7
  have G7 := Below.trans G6 (b7.mono G6.size)
  clear A6 G6 b7
  have r0 := A7.1; have r1 := A7.2.2.2.1; have r2 := A7.2.2.2.2.2; have r3 := r0; have r4 := r0
  go_wp2_with (first | (refine wpList_load_all (by rfl) 24 _ rfl _ rfl _ _ _ _ (by repeat (first | (with_reducible exact RowIs.un r0) | (with_reducible exact RowIs.un r1) | (with_reducible exact RowIs.un r2) | (with_reducible exact RowIs.un r3) | (with_reducible exact RowIs.un r4) | (with_reducible refine heap_newS _ _ _ ?_; (first | (simp; done) | (simp; omega))) | with_reducible apply heap_gwS | with_reducible apply heap_drewNS | with_reducible apply heap_drewS | with_reducible apply heap_allocS)) Try.underlying24 rfl (by kernel_rfl) ?_) | (refine wpList_load_all (by rfl) 74 _ rfl _ rfl _ _ _ _ (by repeat (first | (with_reducible exact RowIs.un r0) | (with_reducible exact RowIs.un r1) | (with_reducible exact RowIs.un r2) | (with_reducible exact RowIs.un r3) | (with_reducible exact RowIs.un r4) | (with_reducible refine heap_newS _ _ _ ?_; (first | (simp; done) | (simp; omega))) | with_reducible apply heap_gwS | with_reducible apply heap_drewNS | with_reducible apply heap_drewS | with_reducible apply heap_allocS)) Try.underlying74 rfl (by kernel_rfl) ?_))
  clear r0 r1 r2 r3 r4
  ((refine (jHon (some ⟨n + 1 + 1 + 1, 0, none⟩) 3 [⟨3, 0, 0, 0, 3, some ⟨n, 0, none⟩, 2, 2⟩, ⟨3, 0, 0, 0, 0, some ⟨n + 1, 0, none⟩, 1, 1⟩, ⟨4, 0, 0, 0, 2, some ⟨n + 1 + 1, 0, none⟩, 1, 1⟩] (fit3 _ _ _) (by simp) (some ⟨n + 1 + 1 + 1 + 1, 0, none⟩) none 1 0 [(3, 4)] [] (fun s hs => by simp at hs; subst hs; exact ⟨Wlit (by omega), Wlit (by omega)⟩) (fun s hs => absurd hs (by simp)) (by simp) (by simp) 0 0 false _ (.inr ⟨n + 1 + 1 + 1, 0, rfl, came3 A7.2.1⟩) (.inr ⟨n + 1 + 1 + 1 + 1, 0, rfl, span1 A7.2.2.1⟩) (.inl rfl) false ⟨fun h => (by cases h), fun h => absurd h (hon3no _ _ _)⟩).mono ?_); rintro e' w8 ⟨rfl, b8⟩)
  skip
  have A8 := rowsBel6 A7 b8
  have G8 := Below.trans G7 (b8.mono G7.size)
  clear A7 G7 b8
  have r0 := A8.1; have r1 := A8.2.2.2.1; have r2 := A8.2.2.2.2.2; have r3 := r0; have r4 := r0
  go_wp2_with (first | (refine wpList_load_all (by rfl) 24 _ rfl _ rfl _ _ _ _ (by repeat (first | (with_reducible exact RowIs.un r0) | (with_reducible exact RowIs.un r1) | (with_reducible exact RowIs.un r2) | (with_reducible exact RowIs.un r3) | (with_reducible exact RowIs.un r4) | (with_reducible refine heap_newS _ _ _ ?_; (first | (simp; done) | (simp; omega))) | with_reducible apply heap_gwS | with_reducible apply heap_drewNS | with_reducible apply heap_drewS | with_reducible apply heap_allocS)) Try.underlying24 rfl (by kernel_rfl) ?_) | (refine wpList_load_all (by rfl) 74 _ rfl _ rfl _ _ _ _ (by repeat (first | (with_reducible exact RowIs.un r0) | (with_reducible exact RowIs.un r1) | (with_reducible exact RowIs.un r2) | (with_reducible exact RowIs.un r3) | (with_reducible exact RowIs.un r4) | (with_reducible refine heap_newS _ _ _ ?_; (first | (simp; done) | (simp; omega))) | with_reducible apply heap_gwS | with_reducible apply heap_drewNS | with_reducible apply heap_drewS | with_reducible apply heap_allocS)) Try.underlying74 rfl (by kernel_rfl) ?_))
  clear r0 r1 r2 r3 r4
  ((refine (jHon (some ⟨n + 1 + 1 + 1, 0, none⟩) 3 [⟨3, 0, 0, 0, 3, some ⟨n, 0, none⟩, 2, 2⟩, ⟨3, 0, 0, 0, 0, some ⟨n + 1, 0, none⟩, 1, 1⟩, ⟨4, 0, 0, 0, 2, some ⟨n + 1 + 1, 0, none⟩, 1, 1⟩] (fit3 _ _ _) (by simp) (some ⟨n + 1 + 1 + 1 + 1, 0, none⟩) (some ⟨n + 1 + 1 + 1 + 1 + 1 + 1, 0, none⟩) 1 1 [(3, 4)] [(3, 3)] (fun s hs => by simp at hs; subst hs; exact ⟨Wlit (by omega), Wlit (by omega)⟩) (fun s hs => by simp at hs; subst hs; exact ⟨Wlit (by omega), Wlit (by omega)⟩) (by simp) (by simp) 0 0 false _ (.inr ⟨n + 1 + 1 + 1, 0, rfl, came3 A8.2.1⟩) (.inr ⟨n + 1 + 1 + 1 + 1, 0, rfl, span1 A8.2.2.1⟩) (.inr ⟨n + 1 + 1 + 1 + 1 + 1 + 1, 0, rfl, span1 A8.2.2.2.2.1⟩) true ⟨fun _ => hon3yes _ _ _, fun _ => rfl⟩).mono ?_); rintro e' w9 ⟨rfl, b9⟩)
  skip
  have A9 := rowsBel6 A8 b9
  have G9 := Below.trans G8 (b9.mono G8.size)
  clear A8 G8 b9
  have r0 := A9.1; have r1 := A9.2.2.2.1; have r2 := A9.2.2.2.2.2; have r3 := r0; have r4 := r0
  go_wp2_with (first | (refine wpList_load_all (by rfl) 24 _ rfl _ rfl _ _ _ _ (by repeat (first | (with_reducible exact RowIs.un r0) | (with_reducible exact RowIs.un r1) | (with_reducible exact RowIs.un r2) | (with_reducible exact RowIs.un r3) | (with_reducible exact RowIs.un r4) | (with_reducible refine heap_newS _ _ _ ?_; (first | (simp; done) | (simp; omega))) | with_reducible apply heap_gwS | with_reducible apply heap_drewNS | with_reducible apply heap_drewS | with_reducible apply heap_allocS)) Try.underlying24 rfl (by kernel_rfl) ?_) | (refine wpList_load_all (by rfl) 74 _ rfl _ rfl _ _ _ _ (by repeat (first | (with_reducible exact RowIs.un r0) | (with_reducible exact RowIs.un r1) | (with_reducible exact RowIs.un r2) | (with_reducible exact RowIs.un r3) | (with_reducible exact RowIs.un r4) | (with_reducible refine heap_newS _ _ _ ?_; (first | (simp; done) | (simp; omega))) | with_reducible apply heap_gwS | with_reducible apply heap_drewNS | with_reducible apply heap_drewS | with_reducible apply heap_allocS)) Try.underlying74 rfl (by kernel_rfl) ?_))
  clear r0 r1 r2 r3 r4
  ((refine (jHarm none 0 [] (by simp) (.slice none 0 0) [] (by simp) (by simp) _ (.inl ⟨none, 0, rfl, fun _ => rfl, rfl⟩) (.inl rfl) 2 zeroA rfl true ⟨fun _ => .inl (by decide), fun _ => rfl⟩).mono ?_); rintro e' w10 ⟨rfl, b10⟩)
  skip
  have A10 := rowsBel6 A9 b10
  have G10 := Below.trans G9 (b10.mono G9.size)
  clear A9 G9 b10
  have r0 := A10.1; have r1 := A10.2.2.2.1; have r2 := A10.2.2.2.2.2; have r3 := r0; have r4 := r0
  go_wp2_with (first | (refine wpList_load_all (by rfl) 24 _ rfl _ rfl _ _ _ _ (by repeat (first | (with_reducible exact RowIs.un r0) | (with_reducible exact RowIs.un r1) | (with_reducible exact RowIs.un r2) | (with_reducible exact RowIs.un r3) | (with_reducible exact RowIs.un r4) | (with_reducible refine heap_newS _ _ _ ?_; (first | (simp; done) | (simp; omega))) | with_reducible apply heap_gwS | with_reducible apply heap_drewNS | with_reducible apply heap_drewS | with_reducible apply heap_allocS)) Try.underlying24 rfl (by kernel_rfl) ?_) | (refine wpList_load_all (by rfl) 74 _ rfl _ rfl _ _ _ _ (by repeat (first | (with_reducible exact RowIs.un r0) | (with_reducible exact RowIs.un r1) | (with_reducible exact RowIs.un r2) | (with_reducible exact RowIs.un r3) | (with_reducible exact RowIs.un r4) | (with_reducible refine heap_newS _ _ _ ?_; (first | (simp; done) | (simp; omega))) | with_reducible apply heap_gwS | with_reducible apply heap_drewNS | with_reducible apply heap_drewS | with_reducible apply heap_allocS)) Try.underlying74 rfl (by kernel_rfl) ?_))
  clear r0 r1 r2 r3 r4
  ((refine (jMost (64) (0) (4) (4611686018427387903) (1) (1) (2) (2) (2) (1) (1) (1) (1) (1) (1) (0) (1) 7 true 2 (by kernel_rfl) (by kernel_rfl) (Wlit (by omega)) (Wlit (by omega)) (Wlit (by omega)) _).mono ?_); rintro e' w11 ⟨rfl, b11⟩)
  have b11 := Gr.below b11
  have A11 := rowsBel6 A10 b11
  have G11 := Below.trans G10 (b11.mono G10.size)
  clear A10 G10 b11
  have r0 := A11.1; have r1 := A11.2.2.2.1; have r2 := A11.2.2.2.2.2; have r3 := r0; have r4 := r0
  go_wp2_with (first | (refine wpList_load_all (by rfl) 24 _ rfl _ rfl _ _ _ _ (by repeat (first | (with_reducible exact RowIs.un r0) | (with_reducible exact RowIs.un r1) | (with_reducible exact RowIs.un r2) | (with_reducible exact RowIs.un r3) | (with_reducible exact RowIs.un r4) | (with_reducible refine heap_newS _ _ _ ?_; (first | (simp; done) | (simp; omega))) | with_reducible apply heap_gwS | with_reducible apply heap_drewNS | with_reducible apply heap_drewS | with_reducible apply heap_allocS)) Try.underlying24 rfl (by kernel_rfl) ?_) | (refine wpList_load_all (by rfl) 74 _ rfl _ rfl _ _ _ _ (by repeat (first | (with_reducible exact RowIs.un r0) | (with_reducible exact RowIs.un r1) | (with_reducible exact RowIs.un r2) | (with_reducible exact RowIs.un r3) | (with_reducible exact RowIs.un r4) | (with_reducible refine heap_newS _ _ _ ?_; (first | (simp; done) | (simp; omega))) | with_reducible apply heap_gwS | with_reducible apply heap_drewNS | with_reducible apply heap_drewS | with_reducible apply heap_allocS)) Try.underlying74 rfl (by kernel_rfl) ?_))
  clear r0 r1 r2 r3 r4
  ((refine (jMost 0 0 0 0 0 0 0 0 0 0 0 0 0 0 0 0 0 7 false 0 (by kernel_rfl) (by kernel_rfl) (Wlit (by omega)) (Wlit (by omega)) (Wlit (by omega)) _).mono ?_); rintro e' w12 ⟨rfl, b12⟩)
  have b12 := Gr.below b12
  have A12 := rowsBel6 A11 b12
  have G12 := Below.trans G11 (b12.mono G11.size)
  clear A11 G11 b12
  have r0 := A12.1; have r1 := A12.2.2.2.1; have r2 := A12.2.2.2.2.2; have r3 := r0; have r4 := r0
  go_wp2_with (first | (refine wpList_load_all (by rfl) 24 _ rfl _ rfl _ _ _ _ (by repeat (first | (with_reducible exact RowIs.un r0) | (with_reducible exact RowIs.un r1) | (with_reducible exact RowIs.un r2) | (with_reducible exact RowIs.un r3) | (with_reducible exact RowIs.un r4) | (with_reducible refine heap_newS _ _ _ ?_; (first | (simp; done) | (simp; omega))) | with_reducible apply heap_gwS | with_reducible apply heap_drewNS | with_reducible apply heap_drewS | with_reducible apply heap_allocS)) Try.underlying24 rfl (by kernel_rfl) ?_) | (refine wpList_load_all (by rfl) 74 _ rfl _ rfl _ _ _ _ (by repeat (first | (with_reducible exact RowIs.un r0) | (with_reducible exact RowIs.un r1) | (with_reducible exact RowIs.un r2) | (with_reducible exact RowIs.un r3) | (with_reducible exact RowIs.un r4) | (with_reducible refine heap_newS _ _ _ ?_; (first | (simp; done) | (simp; omega))) | with_reducible apply heap_gwS | with_reducible apply heap_drewNS | with_reducible apply heap_drewS | with_reducible apply heap_allocS)) Try.underlying74 rfl (by kernel_rfl) ?_))
  clear r0 r1 r2 r3 r4
  ((refine (jPaced0 none none 0 0 0 (Wlit (by omega)) _).mono ?_); rintro e' w13 ⟨rfl, b13⟩)
  have b13 := Gr.below b13
  have A13 := rowsBel6 A12 b13
  have G13 := Below.trans G12 (b13.mono G12.size)
  clear A12 G12 b13
  have r0 := A13.1; have r1 := A13.2.2.2.1; have r2 := A13.2.2.2.2.2; have r3 := r0; have r4 := r0
  go_wp2_with (first | (refine wpList_load_all (by rfl) 24 _ rfl _ rfl _ _ _ _ (by repeat (first | (with_reducible exact RowIs.un r0) | (with_reducible exact RowIs.un r1) | (with_reducible exact RowIs.un r2) | (with_reducible exact RowIs.un r3) | (with_reducible exact RowIs.un r4) | (with_reducible refine heap_newS _ _ _ ?_; (first | (simp; done) | (simp; omega))) | with_reducible apply heap_gwS | with_reducible apply heap_drewNS | with_reducible apply heap_drewS | with_reducible apply heap_allocS)) Try.underlying24 rfl (by kernel_rfl) ?_) | (refine wpList_load_all (by rfl) 74 _ rfl _ rfl _ _ _ _ (by repeat (first | (with_reducible exact RowIs.un r0) | (with_reducible exact RowIs.un r1) | (with_reducible exact RowIs.un r2) | (with_reducible exact RowIs.un r3) | (with_reducible exact RowIs.un r4) | (with_reducible refine heap_newS _ _ _ ?_; (first | (simp; done) | (simp; omega))) | with_reducible apply heap_gwS | with_reducible apply heap_drewNS | with_reducible apply heap_drewS | with_reducible apply heap_allocS)) Try.underlying74 rfl (by kernel_rfl) ?_))
  clear r0 r1 r2 r3 r4
  ((refine (jPer (64) (0) (4) (4611686018427387903) (1) (1) (2) (2) (2) (1) (1) (1) (1) (1) (1) (0) (1) 2 true 4000016 (by kernel_rfl) (by kernel_rfl) (Wlit (by omega)) (Wlit (by omega)) (Wlit (by omega)) (Wlit (by omega)) _).mono ?_); rintro e' w14 ⟨rfl, b14⟩)
  have b14 := Gr.below b14
  have A14 := rowsBel6 A13 b14
  have G14 := Below.trans G13 (b14.mono G13.size)
  clear A13 G13 b14
  have r0 := A14.1; have r1 := A14.2.2.2.1; have r2 := A14.2.2.2.2.2; have r3 := r0; have r4 := r0
  go_wp2_with (first | (refine wpList_load_all (by rfl) 24 _ rfl _ rfl _ _ _ _ (by repeat (first | (with_reducible exact RowIs.un r0) | (with_reducible exact RowIs.un r1) | (with_reducible exact RowIs.un r2) | (with_reducible exact RowIs.un r3) | (with_reducible exact RowIs.un r4) | (with_reducible refine heap_newS _ _ _ ?_; (first | (simp; done) | (simp; omega))) | with_reducible apply heap_gwS | with_reducible apply heap_drewNS | with_reducible apply heap_drewS | with_reducible apply heap_allocS)) Try.underlying24 rfl (by kernel_rfl) ?_) | (refine wpList_load_all (by rfl) 74 _ rfl _ rfl _ _ _ _ (by repeat (first | (with_reducible exact RowIs.un r0) | (with_reducible exact RowIs.un r1) | (with_reducible exact RowIs.un r2) | (with_reducible exact RowIs.un r3) | (with_reducible exact RowIs.un r4) | (with_reducible refine heap_newS _ _ _ ?_; (first | (simp; done) | (simp; omega))) | with_reducible apply heap_gwS | with_reducible apply heap_drewNS | with_reducible apply heap_drewS | with_reducible apply heap_allocS)) Try.underlying74 rfl (by kernel_rfl) ?_))
  clear r0 r1 r2 r3 r4
  
  go_wp2_with fail
  go_ret
  exact ⟨rfl, G14⟩

end Go.Proofs.Ytikkmdbaekdolaa
