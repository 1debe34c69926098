/- The examples of the document, chapter 23: alive returns true. -/
import Derived.Test.YtikkmdbaekdolaaCtrl3
import Derived.Test.YtikkmdbaekdolaaConf0
import Derived.Test.YtikkmdbaekdolaaBase
import Derived.Deep.RegionHeld3
namespace Go.Proofs.Ytikkmdbaekdolaa
open Go.RowKit Go.Lib
set_option linter.unusedVariables false
set_option maxRecDepth 100000

theorem numsLit (w : World) (b : Nat) (hb : b < w.heap.size) (h0 : w.cell? ⟨b, 0, none⟩ = some (.int .u32 9)) (h1 : w.cell? ⟨b, 1, none⟩ = some (.int .u32 30)) (h2 : w.cell? ⟨b, 2, none⟩ = some (.int .u32 50)) (h3 : w.cell? ⟨b, 3, none⟩ = some (.int .u32 100)) :
    Nums w (some ⟨b, 0, none⟩) 4 (fun i => [9, 30, 50, 100].getD i 0) := by
  refine ⟨by omega, .inr ⟨b, 0, rfl, hb, fun i hi => ?_⟩⟩
  rcases (by omega : i = 0 ∨ i = 1 ∨ i = 2 ∨ i = 3) with rfl | rfl | rfl | rfl
  · exact ⟨h0, by decide⟩
  · exact ⟨h1, by decide⟩
  · exact ⟨h2, by decide⟩
  · exact ⟨h3, by decide⟩

set_option maxHeartbeats 4000000 in
set_option maxRecDepth 100000 in
theorem aliveCtrl (w : World) : Calls Try.prog 15 #[] w fun e w' => e = .returned (.bool true) ∧ Gr w w' := by
  have cC : ∀ (w : World) (b : Nat), Nums w (some ⟨b, 0, none⟩) 4 (fun i => [9, 30, 50, 100].getD i 0) → Calls Try.prog 16 #[.slice (some ⟨b, 0, none⟩) 4 4] w fun e w' => e = .returned (.agg #[.int .i64 64, .int .u64 0, .int .i64 4, .int .u64 4611686018427387903, .int .i64 1, .int .u64 10, .int .u64 100, .int .u64 50, .int .u64 200, .int .i64 1, .int .u64 1, .int .u64 1, .int .u64 1, .int .u64 10, .int .u64 1, .int .i64 0, .int .u64 1]) ∧ Gr w w' :=
    fun w b h => (zConf (some ⟨b, 0, none⟩) 4 4 _ w h).mono fun e w' h => ⟨h.1.trans (by kernel_rfl), h.2⟩
  have c0 : ∀ w, Calls Try.prog 37 #[.agg #[.int .i64 64, .int .u64 0, .int .i64 4, .int .u64 4611686018427387903, .int .i64 1, .int .u64 10, .int .u64 100, .int .u64 50, .int .u64 200, .int .i64 1, .int .u64 1, .int .u64 1, .int .u64 1, .int .u64 10, .int .u64 1, .int .i64 0, .int .u64 1]] w fun e w' => e = .returned (.agg #[.int .u64 100, .int .u64 18446744073709551615, .int .u64 0, .int .u64 0, .int .u64 18446744073709551615, .int .u64 0, .int .u64 0, .int .u64 0, .int .u64 0]) ∧ Gr w w' :=
    fun w => (nSta 64 0 4 4611686018427387903 1 10 100 50 200 1 1 1 1 10 1 0 1 ⟨100, 18446744073709551615, 0, 0, 18446744073709551615, 0, 0, 0, 0⟩ true (by kernel_rfl) (by kernel_rfl) (Wlit (by omega)) w).mono fun e w' h => ⟨h.1.trans (by kernel_rfl), h.2⟩
  have c1 : ∀ w, Calls Try.prog 17 #[.agg #[.int .i64 64, .int .u64 0, .int .i64 4, .int .u64 4611686018427387903, .int .i64 1, .int .u64 10, .int .u64 100, .int .u64 50, .int .u64 200, .int .i64 1, .int .u64 1, .int .u64 1, .int .u64 1, .int .u64 10, .int .u64 1, .int .i64 0, .int .u64 1], .agg #[.int .u64 100, .int .u64 18446744073709551615, .int .u64 0, .int .u64 0, .int .u64 18446744073709551615, .int .u64 0, .int .u64 0, .int .u64 0, .int .u64 0], .int .u64 3, .int .u64 9] w fun e w' => e = .returned (.tuple #[.agg #[.int .u64 50, .int .u64 50, .int .u64 0, .int .u64 0, .int .u64 18446744073709551615, .int .u64 0, .int .u64 0, .int .u64 9, .int .u64 1], .bool true]) ∧ Gr w w' :=
    fun w => (nLoss 64 0 4 4611686018427387903 1 10 100 50 200 1 1 1 1 10 1 0 1 100 18446744073709551615 0 0 18446744073709551615 0 0 0 0 3 9 ⟨50, 50, 0, 0, 18446744073709551615, 0, 0, 9, 1⟩ true true (by kernel_rfl) (by kernel_rfl) (by kernel_rfl) (Wlit (by omega)) (Wlit (by omega)) (Wlit (by omega)) w).mono fun e w' h => ⟨h.1.trans (by kernel_rfl), h.2⟩
  have c2 : ∀ w, Calls Try.prog 17 #[.agg #[.int .i64 64, .int .u64 0, .int .i64 4, .int .u64 4611686018427387903, .int .i64 1, .int .u64 10, .int .u64 100, .int .u64 50, .int .u64 200, .int .i64 1, .int .u64 1, .int .u64 1, .int .u64 1, .int .u64 10, .int .u64 1, .int .i64 0, .int .u64 1], .agg #[.int .u64 50, .int .u64 50, .int .u64 0, .int .u64 0, .int .u64 18446744073709551615, .int .u64 0, .int .u64 0, .int .u64 9, .int .u64 1], .int .u64 8, .int .u64 12] w fun e w' => e = .returned (.tuple #[.agg #[.int .u64 50, .int .u64 50, .int .u64 0, .int .u64 0, .int .u64 18446744073709551615, .int .u64 0, .int .u64 0, .int .u64 9, .int .u64 1], .bool false]) ∧ Gr w w' :=
    fun w => (nLoss 64 0 4 4611686018427387903 1 10 100 50 200 1 1 1 1 10 1 0 1 50 50 0 0 18446744073709551615 0 0 9 1 8 12 ⟨50, 50, 0, 0, 18446744073709551615, 0, 0, 9, 1⟩ false true (by kernel_rfl) (by kernel_rfl) (by kernel_rfl) (Wlit (by omega)) (Wlit (by omega)) (Wlit (by omega)) w).mono fun e w' h => ⟨h.1.trans (by kernel_rfl), h.2⟩
  have c3 : ∀ w, Calls Try.prog 19 #[.agg #[.int .i64 64, .int .u64 0, .int .i64 4, .int .u64 4611686018427387903, .int .i64 1, .int .u64 10, .int .u64 100, .int .u64 50, .int .u64 200, .int .i64 1, .int .u64 1, .int .u64 1, .int .u64 1, .int .u64 10, .int .u64 1, .int .i64 0, .int .u64 1], .agg #[.int .u64 50, .int .u64 50, .int .u64 0, .int .u64 0, .int .u64 18446744073709551615, .int .u64 0, .int .u64 0, .int .u64 9, .int .u64 1], .int .u64 9, .int .u64 12] w fun e w' => e = .returned (.tuple #[.agg #[.int .u64 50, .int .u64 50, .int .u64 0, .int .u64 0, .int .u64 18446744073709551615, .int .u64 0, .int .u64 0, .int .u64 12, .int .u64 2], .bool true]) ∧ Gr w w' :=
    fun w => (nMark 64 0 4 4611686018427387903 1 10 100 50 200 1 1 1 1 10 1 0 1 50 50 0 0 18446744073709551615 0 0 9 1 9 12 ⟨50, 50, 0, 0, 18446744073709551615, 0, 0, 12, 2⟩ true true (by kernel_rfl) (by kernel_rfl) (by kernel_rfl) (Wlit (by omega)) (Wlit (by omega)) (Wlit (by omega)) w).mono fun e w' h => ⟨h.1.trans (by kernel_rfl), h.2⟩
  have c4 : ∀ w, Calls Try.prog 37 #[.agg #[.int .i64 0, .int .u64 0, .int .i64 0, .int .u64 0, .int .i64 0, .int .u64 0, .int .u64 0, .int .u64 0, .int .u64 0, .int .i64 0, .int .u64 0, .int .u64 0, .int .u64 0, .int .u64 0, .int .u64 0, .int .i64 0, .int .u64 0]] w fun e w' => e = .returned (.agg #[.int .u64 0, .int .u64 0, .int .u64 0, .int .u64 0, .int .u64 0, .int .u64 0, .int .u64 0, .int .u64 0, .int .u64 0]) ∧ Gr w w' :=
    fun w => (nSta 0 0 0 0 0 0 0 0 0 0 0 0 0 0 0 0 0 ⟨0, 0, 0, 0, 0, 0, 0, 0, 0⟩ false (by kernel_rfl) (by kernel_rfl) (Wlit (by omega)) w).mono fun e w' h => ⟨h.1.trans (by kernel_rfl), h.2⟩
  have c5 : ∀ w, Calls Try.prog 21 #[.agg #[.int .i64 64, .int .u64 0, .int .i64 4, .int .u64 4611686018427387903, .int .i64 1, .int .u64 10, .int .u64 100, .int .u64 50, .int .u64 200, .int .i64 1, .int .u64 1, .int .u64 1, .int .u64 1, .int .u64 10, .int .u64 1, .int .i64 0, .int .u64 1], .agg #[.int .u64 100, .int .u64 18446744073709551615, .int .u64 0, .int .u64 0, .int .u64 18446744073709551615, .int .u64 0, .int .u64 0, .int .u64 0, .int .u64 0]] w fun e w' => e = .returned (.agg #[.int .u64 50, .int .u64 50, .int .u64 0, .int .u64 0, .int .u64 18446744073709551615, .int .u64 0, .int .u64 0, .int .u64 0, .int .u64 0]) ∧ Gr w w' :=
    fun w => (nColl 64 0 4 4611686018427387903 1 10 100 50 200 1 1 1 1 10 1 0 1 100 18446744073709551615 0 0 18446744073709551615 0 0 0 0 ⟨50, 50, 0, 0, 18446744073709551615, 0, 0, 0, 0⟩ true (by kernel_rfl) (by kernel_rfl) (Wlit (by omega)) (Wlit (by omega)) w).mono fun e w' h => ⟨h.1.trans (by kernel_rfl), h.2⟩
  have f1 : ∀ w, (Instr.field 31 (.agg #[.int .u64 50, .int .u64 50, .int .u64 0, .int .u64 0, .int .u64 18446744073709551615, .int .u64 0, .int .u64 0, .int .u64 0, .int .u64 0]) 0).run Try.prog w = .ok (.agg #[.int .u64 50, .int .u64 50, .int .u64 0, .int .u64 0, .int .u64 18446744073709551615, .int .u64 0, .int .u64 0]) w := fun _ => by kernel_rfl
  have f2 : ∀ w, (Instr.field 27 (.agg #[.int .u64 50, .int .u64 50, .int .u64 0, .int .u64 0, .int .u64 18446744073709551615, .int .u64 0, .int .u64 0]) 0).run Try.prog w = .ok (.int .u64 50) w := fun _ => by kernel_rfl
  have HC := Lib.hid cC
  have C0 := Lib.hid c0
  have C1 := Lib.hid c1
  have C2 := Lib.hid c2
  have C3 := Lib.hid c3
  have C4 := Lib.hid c4
  have C5 := Lib.hid c5
  clear cC c0 c1 c2 c3 c4 c5
  go_enter Try.func15, Try.ntmps15
  go_wp2_with fail
  ((with_reducible refine (HC.out _ _ ?_).mono ?_); (refine numsLit _ _ ?_ ?_ ?_ ?_ ?_ <;> go_simp); rintro e w' ⟨rfl, nC, osC, rfl⟩)
  go_wp2_with (first | (refine wpList_store_newD rfl 24 _ _ rfl _ _ rfl rfl _ _ _ _ (by with_reducible rfl) (by simp) (by kernel_rfl) rfl (by first | kernel_rfl | simp [Value.oneCell'] | rfl) ?_) | (refine wpList_store_new rfl 24 _ _ rfl _ _ rfl rfl _ _ _ (by with_reducible rfl) (by simp) (by kernel_rfl) rfl (by first | kernel_rfl | simp [Value.oneCell'] | rfl) ?_) | (refine wpList_load_all (by rfl) 24 _ rfl _ rfl _ _ _ _ (by repeat (first | (with_reducible refine heap_newS _ _ _ ?_; simp; done) | with_reducible apply heap_gwS | with_reducible apply heap_drewNS | with_reducible apply heap_drewS | with_reducible apply heap_allocS)) Try.underlying24 rfl (by kernel_rfl) ?_))
  ((with_reducible refine (C0.out _).mono ?_); rintro e w' ⟨rfl, n0, os0, rfl⟩)
  go_wp2_with (first | (refine wpList_store_newD rfl 24 _ _ rfl _ _ rfl rfl _ _ _ _ (by with_reducible rfl) (by simp) (by kernel_rfl) rfl (by first | kernel_rfl | simp [Value.oneCell'] | rfl) ?_) | (refine wpList_store_new rfl 24 _ _ rfl _ _ rfl rfl _ _ _ (by with_reducible rfl) (by simp) (by kernel_rfl) rfl (by first | kernel_rfl | simp [Value.oneCell'] | rfl) ?_) | (refine wpList_load_all (by rfl) 24 _ rfl _ rfl _ _ _ _ (by repeat (first | (with_reducible refine heap_newS _ _ _ ?_; simp; done) | with_reducible apply heap_gwS | with_reducible apply heap_drewNS | with_reducible apply heap_drewS | with_reducible apply heap_allocS)) Try.underlying24 rfl (by kernel_rfl) ?_))
  ((with_reducible refine (C1.out _).mono ?_); rintro e w' ⟨rfl, n1, os1, rfl⟩)
  go_wp2_with (first | (refine wpList_store_newD rfl 24 _ _ rfl _ _ rfl rfl _ _ _ _ (by with_reducible rfl) (by simp) (by kernel_rfl) rfl (by first | kernel_rfl | simp [Value.oneCell'] | rfl) ?_) | (refine wpList_store_new rfl 24 _ _ rfl _ _ rfl rfl _ _ _ (by with_reducible rfl) (by simp) (by kernel_rfl) rfl (by first | kernel_rfl | simp [Value.oneCell'] | rfl) ?_) | (refine wpList_load_all (by rfl) 24 _ rfl _ rfl _ _ _ _ (by repeat (first | (with_reducible refine heap_newS _ _ _ ?_; simp; done) | with_reducible apply heap_gwS | with_reducible apply heap_drewNS | with_reducible apply heap_drewS | with_reducible apply heap_allocS)) Try.underlying24 rfl (by kernel_rfl) ?_))
  ((with_reducible refine (C2.out _).mono ?_); rintro e w' ⟨rfl, n2, os2, rfl⟩)
  go_wp2_with (first | (refine wpList_store_newD rfl 24 _ _ rfl _ _ rfl rfl _ _ _ _ (by with_reducible rfl) (by simp) (by kernel_rfl) rfl (by first | kernel_rfl | simp [Value.oneCell'] | rfl) ?_) | (refine wpList_store_new rfl 24 _ _ rfl _ _ rfl rfl _ _ _ (by with_reducible rfl) (by simp) (by kernel_rfl) rfl (by first | kernel_rfl | simp [Value.oneCell'] | rfl) ?_) | (refine wpList_load_all (by rfl) 24 _ rfl _ rfl _ _ _ _ (by repeat (first | (with_reducible refine heap_newS _ _ _ ?_; simp; done) | with_reducible apply heap_gwS | with_reducible apply heap_drewNS | with_reducible apply heap_drewS | with_reducible apply heap_allocS)) Try.underlying24 rfl (by kernel_rfl) ?_))
  ((with_reducible refine (C3.out _).mono ?_); rintro e w' ⟨rfl, n3, os3, rfl⟩)
  go_wp2_with (first | (refine wpList_store_newD rfl 24 _ _ rfl _ _ rfl rfl _ _ _ _ (by with_reducible rfl) (by simp) (by kernel_rfl) rfl (by first | kernel_rfl | simp [Value.oneCell'] | rfl) ?_) | (refine wpList_store_new rfl 24 _ _ rfl _ _ rfl rfl _ _ _ (by with_reducible rfl) (by simp) (by kernel_rfl) rfl (by first | kernel_rfl | simp [Value.oneCell'] | rfl) ?_) | (refine wpList_load_all (by rfl) 24 _ rfl _ rfl _ _ _ _ (by repeat (first | (with_reducible refine heap_newS _ _ _ ?_; simp; done) | with_reducible apply heap_gwS | with_reducible apply heap_drewNS | with_reducible apply heap_drewS | with_reducible apply heap_allocS)) Try.underlying24 rfl (by kernel_rfl) ?_))
  ((with_reducible refine (C4.out _).mono ?_); rintro e w' ⟨rfl, n4, os4, rfl⟩)
  go_wp2_with (first | (refine wpList_store_newD rfl 24 _ _ rfl _ _ rfl rfl _ _ _ _ (by with_reducible rfl) (by simp) (by kernel_rfl) rfl (by first | kernel_rfl | simp [Value.oneCell'] | rfl) ?_) | (refine wpList_store_new rfl 24 _ _ rfl _ _ rfl rfl _ _ _ (by with_reducible rfl) (by simp) (by kernel_rfl) rfl (by first | kernel_rfl | simp [Value.oneCell'] | rfl) ?_) | (refine wpList_load_all (by rfl) 24 _ rfl _ rfl _ _ _ _ (by repeat (first | (with_reducible refine heap_newS _ _ _ ?_; simp; done) | with_reducible apply heap_gwS | with_reducible apply heap_drewNS | with_reducible apply heap_drewS | with_reducible apply heap_allocS)) Try.underlying24 rfl (by kernel_rfl) ?_))
  ((with_reducible refine (C5.out _).mono ?_); rintro e w' ⟨rfl, n5, os5, rfl⟩)
  go_wp2_with fail
  go_ret
  exact ⟨rfl, by repeat (first | exact Gr.refl _ | apply Gr.drewN | apply Gr.drew | apply Gr.gw | apply Gr.alloc)⟩

end Go.Proofs.Ytikkmdbaekdolaa
