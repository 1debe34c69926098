/- The examples of the document, chapter 6: alive returns true. -/
import Derived.Test.YtinbfjkonaohnaaReader
namespace Go.Proofs.Ytinbfjkonaohnaa
open Go.RowKit Go.Lib
set_option linter.unusedVariables false

set_option maxHeartbeats 1000000 in
theorem aliveOctet (w : World) : Calls Try.prog 26 #[] w fun e w' => e = .returned (.bool true) ∧ Below w.heap.size w w' := by
  have hb : bits .or .u8 0 64 = 64 := by kernel_rfl
  have hstr : (strOfNums [64, 64]).toList = [64, 64] := by
    rw [ByteArray.toList_eq]
    rfl
  go_enter Try.func26, Try.ntmps26
  go_wp2_with fail
  refine (oPut2 64 (by omega) (by omega) _).mono ?_; rintro e' w' ⟨rfl, rfl⟩
  go_wp2_with fail
  refine (oNew (w.heap.size + 1) 0 2 2 [64, 63] rfl (by omega) _ ⟨by simp, fun i hi => ?_⟩).mono ?_
  · rcases (by simp at hi; omega : i = 0 ∨ i = 1) with rfl | rfl <;> go_simp
  rintro e' w' ⟨w1, v, hgrow, hown, rfl, rfl⟩
  have hz := hgrow.size
  have c0 := hgrow.cell (a := ⟨w.heap.size, 0, none⟩) (v := .int .u8 64) (by go_simp) (by simp)
  have c1 := hgrow.cell (a := ⟨w.heap.size, 1, none⟩) (v := .int .u8 64) (by go_simp) (by simp)
  have hbel : Below w.heap.size w w1 := below_grown ((Gr.refl w).alloc _ |>.alloc _ |>.below) hgrow (by simp; omega)
  simp at hz
  obtain ⟨_, ⟨_, h2⟩ | ⟨g, c, cur, rfl, hg, hheap, hc, hm, hcs, htake⟩⟩ := hown
  · omega
  have hgl : g < w1.heap.size := (Array.getElem?_eq_some_iff.1 hheap).1
  have g0 : w1.cell? ⟨g, 0, none⟩ = some (.int .u8 64) := by
    rw [cell_of_row w1 g 0 cur _ _ hheap, ← Array.getElem?_toList]
    have := congrArg (·[0]?) htake
    simpa [List.getElem?_take] using this
  have g1 : w1.cell? ⟨g, 1, none⟩ = some (.int .u8 63) := by
    rw [cell_of_row w1 g 1 cur _ _ hheap, ← Array.getElem?_toList]
    have := congrArg (·[1]?) htake
    simpa [List.getElem?_take] using this
  have hwl : w.heap.size < w1.heap.size := by omega
  unfold maxLen at hm
  clear hheap htake hcs hgrow
  go_wp2_with fail
  refine (oNumForm _ g c _ (by go_simp) (by go_simp) (by go_simp) ⟨by omega, by omega⟩).mono ?_; rintro e' w' ⟨rfl, rfl⟩
  go_wp2_with (refine wpList_conv (by rfl) _ rfl w.heap.size 0 2 2 rfl [64, 64] rfl ⟨by simp; omega, fun i hi => by rcases (by simp at hi; omega : i = 0 ∨ i = 1) with rfl | rfl <;> go_simp⟩ ?_)
  refine (oSize 63 _).mono ?_; rintro e' w' ⟨rfl, rfl⟩
  rw [show sizeI 63 = 1 from rfl]
  go_wp2_with fail
  refine (oSize 4611686018427387904 _).mono ?_; rintro e' w' ⟨rfl, rfl⟩
  rw [show sizeI 4611686018427387904 = 0 from by kernel_rfl]
  go_wp2_with fail
  refine (oLeft w1.heap.size 2 c (some ⟨g, 0, none⟩) _ (by go_simp)).mono ?_; rintro e' w' ⟨rfl, rfl⟩
  go_wp2_with fail
  go_ret
  exact ⟨rfl, hbel.alloc (by omega) _⟩

end Go.Proofs.Ytinbfjkonaohnaa
