/- splittallylaw0.Data: a packet that may be, of any numbers. -/
import Derived.Test.YtofggpmllfhgaaaHeadPut
import Derived.Deep.OwnRows
namespace Go.Proofs.Ytofggpmllfhgaaa
open Go.RowKit Go.Lib
set_option linter.unusedVariables false
set_option maxRecDepth 100000

/-- the row's cells after k rounds -/
def rowD (n : Int) (L k : Nat) : Array Value := (((List.range L).map fun j => Value.int .u8 (if j < k then (n + 7 * j) % 256 else 0))).toArray
theorem rowD_start (n : Int) (L : Nat) : madeCells #[.int .u8 0] L = rowD n L 0 := by
  unfold rowD madeCells
  apply Array.ext
  · simp
  · intro i h1 h2
    simp [Nat.mod_one]
theorem rowD_size (n : Int) (L k : Nat) : (rowD n L k).size = L := by simp [rowD]
theorem rowD_get (n : Int) (L k j : Nat) (h : j < L) : (rowD n L k)[j]? = some (.int .u8 (if j < k then (n + 7 * j) % 256 else 0)) := by
  simp [rowD, h]
theorem rowD_set (n : Int) (L k : Nat) (h : k < L) : (rowD n L k).setIfInBounds k (.int .u8 ((n + 7 * k) % 256)) = rowD n L (k + 1) := by
  apply Array.ext
  · simp [rowD]
  · intro i h1 h2
    have hi : i < L := by simpa [rowD] using h2
    rw [Array.getElem_setIfInBounds (by rw [rowD_size]; exact hi)]
    split
    · rename_i hki
      subst hki
      simp [rowD]
    · rename_i hki
      have : i < k ↔ i < k + 1 := by omega
      simp [rowD, this]

theorem rowD_frozen {w : World} {q : Nat} {cs : Array Value} {t : TypeId} (h : w.heap[q]? = some (.cells cs t (0, 0))) (j : Nat) : w.frozen? ⟨q, j, none⟩ = false := by
  unfold World.frozen?
  rw [h]
  simp
theorem rowD_cell {w : World} {q : Nat} {n : Int} {L k : Nat} (h : w.heap[q]? = some (.cells (rowD n L k) 5 (0, 0))) (j : Nat) (hj : j < L) : w.cell? ⟨q, j, none⟩ = some (.int .u8 (if j < k then (n + 7 * j) % 256 else 0)) := by
  rw [cell_of_row w q j _ _ _ h, rowD_get n L k j hj]

set_option maxHeartbeats 2000000 in
theorem gData (pn off nonce n coin : Int) (h1 : W64 pn) (h2 : W64 off) (h3 : W64 nonce) (h4 : 0 ≤ n ∧ n ≤ 65535) (h5 : -9223372036854775808 ≤ coin ∧ coin ≤ 9223372036854775807) (w : World) :
    Calls Try.prog 22 #[.int .u64 pn, .int .u64 off, .int .u64 nonce, .int .u16 n, .int .i64 coin] w fun e w' => ∃ d q, e = .returned (dataV d (.slice (some ⟨q, 0, none⟩) d.body.length d.body.length)) ∧ MayD d ∧ (∀ y ∈ d.body, 0 ≤ y ∧ y ≤ 255) ∧ Below w.heap.size w w' ∧ BytesAt w' q 0 d.body := by
  obtain ⟨R, hR⟩ : ∃ R : Nat, n.tmod 200 = (R : Int) := ⟨(n % 200).toNat, by rw [Int.tmod_eq_emod_of_nonneg h4.1]; omega⟩
  have hR2 : R < 200 := by rw [Int.tmod_eq_emod_of_nonneg h4.1] at hR; omega
  obtain ⟨L, hL⟩ : ∃ L : Nat, (1 : Int) + (R : Int) = (L : Int) := ⟨R + 1, by omega⟩
  obtain ⟨P, hP⟩ : ∃ P, pn.tmod 4611686018427387904 = P := ⟨_, rfl⟩
  have hP2 : 0 ≤ P ∧ P ≤ 4611686018427387903 := by rw [Int.tmod_eq_emod_of_nonneg h1.1] at hP; omega
  obtain ⟨Q, hQ⟩ : ∃ Q, nonce.tmod (P + 1) = Q := ⟨_, rfl⟩
  have hQ2 : 0 ≤ Q ∧ Q ≤ P := by
    rw [Int.tmod_eq_emod_of_nonneg h3.1] at hQ
    have q1 := Int.emod_nonneg nonce (show P + 1 ≠ 0 by omega)
    have q2 := Int.emod_lt_of_pos nonce (show 0 < P + 1 by omega)
    omega
  obtain ⟨O, hO⟩ : ∃ O, off.tmod 4611686018427387703 = O := ⟨_, rfl⟩
  have hO2 : 0 ≤ O ∧ O ≤ 4611686018427387702 := by rw [Int.tmod_eq_emod_of_nonneg h2.1] at hO; omega
  obtain ⟨C, hC⟩ : ∃ C, coin.tmod 3 = C := ⟨_, rfl⟩
  have hC2 : -2 ≤ C ∧ C ≤ 2 := by
    rcases Int.le_total 0 coin with h | h
    · rw [Int.tmod_eq_emod_of_nonneg h] at hC; omega
    · have e := Int.neg_tmod (-coin) 3
      rw [Int.neg_neg, Int.tmod_eq_emod_of_nonneg (show 0 ≤ -coin by omega)] at e
      omega
  obtain ⟨C', hC'⟩ : ∃ C', (C + 3).tmod 3 = C' := ⟨_, rfl⟩
  have hC3 : 0 ≤ C' ∧ C' ≤ 2 := by rw [Int.tmod_eq_emod_of_nonneg (show 0 ≤ C + 3 by omega)] at hC'; omega
  have hP1 : P + 1 ≠ 0 := by omega
  have hmk := run_make_row' (P := Try.prog) 23 5 (.int .u8 0) 1 Try.underlying23 (by kernel_rfl) rfl .i64 .i64 L (by omega) (by omega)
  rw [rowD_start n L] at hmk
  go_enter Try.func22, Try.ntmps22
  go_wp2_with fail
  go_loopw [20] (fun i wr => ∃ k : Nat, i = .int .i64 (k : Int) ∧ k ≤ L ∧ wr.heap[w.heap.size + 1]? = some (.cells (rowD n L k) 5 (0, 0)) ∧ DatAt wr w.heap.size (.int .u64 0) (.int .u64 0) (.int .u64 0) (.int .u64 0) (.int .i64 0) (.slice none 0 0) ∧ Below w.heap.size w wr) (fun i _ => (L - intOf i).toNat)
  case atStart =>
    refine ⟨0, rfl, by omega, ?_, ?_, ?_⟩
    · have := heap_alloc_new (w.alloc (.cells #[.int .u64 0, .int .u64 0, .int .u64 0, .int .u64 0, .int .i64 0, .slice none 0 0] 25 (0, 0))) (.cells (rowD n L 0) 5 (0, 0))
      rwa [show (w.alloc (.cells #[.int .u64 0, .int .u64 0, .int .u64 0, .int .u64 0, .int .i64 0, .slice none 0 0] 25 (0, 0))).heap.size = w.heap.size + 1 by simp] at this
    · exact DatAt.belowB (show DatAt (w.alloc _) _ _ _ _ _ _ _ from heap_alloc_new w _) (by simp) ((Below.refl (w.heap.size + 1) _).alloc (by simp) _)
    · exact ((Below.refl _ _).alloc (Nat.le_refl _) _).alloc (by simp) _
  case round =>
    obtain ⟨k, rfl, hk, hrow, hD, hbel⟩ := hrel
    by_cases hlt : k < L
    · have hlt' : (k : Int) < (L : Int) := by omega
      have hk0 : (0 : Int) ≤ (k : Int) := by omega
      have ck := rowD_cell hrow k hlt
      have fk := rowD_frozen hrow k
      have HR := Lib.hid hrow
      have hL2 : (L : Int) ≤ 200 := by omega
      clear hrow
      go_wp2_with fail
      go_roundw
      case rel =>
        refine ⟨k + 1, by congr 1, by omega, ?_, ?_, ?_⟩
        · rw [heap_set_self _ _ _ _ _ _ _ HR.out, rowD_set n L k hlt]
        · unfold DatAt
          rw [kept_set _ _ _ _ (by simp)]
          exact hD
        · exact Below.setCell hbel (by simp) _
      case measure => simp only [intOf]; omega
    · have hkL : k = L := by omega
      subst hkL
      have hd : decide ((k : Int) < (k : Int)) = false := by simp
      obtain ⟨⟨a0, a1, a2, a3, a4, a5⟩, fz⟩ := hD.cells
      have z0 := fz 0
      have z1 := fz 1
      have z2 := fz 2
      have z3 := fz 3
      have z4 := fz 4
      have z5 := fz 5
      have HR := Lib.hid hrow
      have HB := Lib.hid hbel
      clear hrow hbel hD fz
      go_wp2_with fail
      refine bodyPost_ret (v := .agg #[.int .u64 P, .int .u64 Q, .int .u64 O, .int .u64 nonce, .int .i64 (1 + C'), .slice (some ⟨w.heap.size + 1, 0, none⟩) k k]) (by simp [results, Try.results22, go_sem, a0, a1, a2, a3, a4, a5]) rfl ⟨⟨P, Q, O, nonce, 1 + C', (List.range k).map fun j : Nat => (n + 7 * j) % 256⟩, w.heap.size + 1, by simp [dataV], ?_, ?_, ?_, ?_⟩
      · exact ⟨hP2, hQ2, by simp only; omega, by simp only [List.length_map, List.length_range]; omega, by simp only [List.length_map, List.length_range]; omega, h3⟩
      · intro y hy
        simp only [List.mem_map] at hy
        obtain ⟨j, _, rfl⟩ := hy
        omega
      · repeat (first | with_reducible exact HB.out | with_reducible refine Below.setCell ?_ (by first | (simp; done) | omega) _)
      · repeat (first | with_reducible refine BytesAt.set ?_ _ (by simp) _)
        have hlt := (Array.getElem?_eq_some_iff.1 HR.out).1
        refine ⟨hlt, fun i hi => ?_⟩
        simp only [List.length_map, List.length_range] at hi
        rw [Nat.zero_add, rowD_cell HR.out i hi]
        simp [hi]

theorem putD_byte (d : Dat) (h : MayD d) (hb : ∀ y ∈ d.body, 0 ≤ y ∧ y ≤ 255) : ∀ y ∈ putD d, 0 ≤ y ∧ y ≤ 255 := by
  obtain ⟨h1, h2, h3, h4, h5, h6⟩ := h
  intro y hy
  simp only [putD, List.mem_cons, List.mem_append] at hy
  rcases hy with rfl | rfl | hy | hy | hy | hy | hy | hy
  · omega
  · omega
  · exact putA_byte d.pn h1 y hy
  · exact putA_byte d.least ⟨h2.1, by omega⟩ y hy
  · exact putA_byte d.off ⟨h5.1, by omega⟩ y hy
  · simp only [eightL, List.mem_cons, List.not_mem_nil, or_false] at hy
    rcases hy with rfl | rfl | rfl | rfl | rfl | rfl | rfl | rfl <;> omega
  · exact putA_byte _ (by omega) y hy
  · exact hb y hy

end Go.Proofs.Ytofggpmllfhgaaa
