/- The examples of the document, chapter 8: alive returns true; a coin's codepoint. -/
import Derived.Test.YtofggpmllfhgaaaHeadPut
import Derived.Lib.SlBytesConst
namespace Go.Proofs.Ytofggpmllfhgaaa
open Go.RowKit Go.Lib
set_option linter.unusedVariables false
set_option maxRecDepth 100000

theorem hEcnB (c : Bool) (w : World) :
    Calls Try.prog 26 #[.bool c] w fun r w' => r = .returned (.int .i64 (if c = true then 1 else 2)) ∧ w = w' := by
  cases c
  · go_enter Try.func26, Try.ntmps26
    go_wp2_with fail
    go_ret
    exact ⟨rfl, rfl⟩
  · go_enter Try.func26, Try.ntmps26
    go_wp2_with fail
    go_ret
    exact ⟨rfl, rfl⟩

theorem hCoin (e : Int) (w : World) :
    Calls Try.prog 25 #[.int .i64 e] w fun r w' => r = .returned (.tuple #[.bool (e == 1), .bool (e == 1 || e == 2)]) ∧ w = w' := by
  by_cases h1 : e = 1
  · subst h1
    go_enter Try.func25, Try.ntmps25
    go_wp2_with fail
    go_ret2
    exact ⟨rfl, rfl⟩
  by_cases h2 : e = 2
  · subst h2
    go_enter Try.func25, Try.ntmps25
    go_wp2_with fail
    go_ret2
    exact ⟨rfl, rfl⟩
  have d1 : (e == 1) = false := by rw [beq_eq_false_iff_ne]; exact h1
  have d2 : (e == 2) = false := by rw [beq_eq_false_iff_ne]; exact h2
  rw [d1, d2]
  go_enter Try.func25, Try.ntmps25
  go_wp2_with fail
  go_ret2
  exact ⟨rfl, rfl⟩

set_option maxHeartbeats 2000000 in
theorem aliveHead (w : World) : Calls Try.prog 14 #[] w fun e w' => e = .returned (.bool true) ∧ Below w.heap.size w w' := by
  have hstr : (strOfNums [1, 2, 1, 0, 0, 0, 0, 0, 0, 0, 0, 0, 0, 1, 120]).toList = [1, 2, 1, 0, 0, 0, 0, 0, 0, 0, 0, 0, 0, 1, 120] := by
    rw [ByteArray.toList_eq]
    rfl
  have hp : putD ⟨1, 0, 0, 0, 2, [120]⟩ = [1, 2, 1, 0, 0, 0, 0, 0, 0, 0, 0, 0, 0, 1, 120] := by decide
  go_enter Try.func14, Try.ntmps14
  go_wp2_with fail
  refine (hDecode (.slice none 0 0) [] (by simp) (by simp) _ (.inl ⟨none, 0, rfl, fun _ => rfl, rfl⟩) 2 zeroD rfl).mono ?_; rintro e' w1 ⟨v1, rfl, b1, B1⟩
  obtain ⟨x1, c1, rfl⟩ := B1.form
  have s1 := b1.size
  unfold dataV zeroD
  simp only [List.length_nil]
  clear B1
  go_wp2_with fail
  refine (hDecode _ [2] (by simp) (by simp) _ (.inr ⟨w1.heap.size + 1, 0, 1, rfl, by simp, by simp, by omega, by simp, fun i hi => ?_⟩) 4 zeroD (by rw [getF, if_neg (by decide)])).mono ?_
  · rcases (by simp at hi; omega : i = 0) with rfl
    go_simp
  rintro e' w2 ⟨v2, rfl, b2, B2⟩
  obtain ⟨x2, c2, rfl⟩ := B2.form
  have s2 := b2.size
  simp at s2
  have b02 : Below w.heap.size w w2 := b1.trans ((((Below.refl _ _).alloc (Nat.le_refl _) _).alloc (by simp) _ |>.mono s1).trans (b2.mono (by simp; omega)))
  unfold dataV zeroD
  simp only [List.length_nil]
  clear B2 b1 b2
  have kc := Lib.run_convert_bytes_const (P := Try.prog) (w2.alloc (.cells #[.int .u64 0, .int .u64 0, .int .u64 0, .int .u64 0, .int .i64 0, .slice x2 0 c2] 25)) 23 5 #[.int .u8 120] 1 1 Try.underlying23 Try.underlying5
  rw [show (w2.alloc (.cells #[.int .u64 0, .int .u64 0, .int .u64 0, .int .u64 0, .int .i64 0, .slice x2 0 c2] 25)).heap.size = w2.heap.size + 1 by simp] at kc
  go_wp2_with fail
  have BX : BytesAt ((w2.alloc (.cells #[.int .u64 0, .int .u64 0, .int .u64 0, .int .u64 0, .int .i64 0, .slice x2 0 c2] 25)).alloc (.cells #[.int .u8 120] 5 (1, 2))) (w2.heap.size + 1) 0 [120] := ⟨by simp, fun i hi => by
    rcases (by simp at hi; omega : i = 0) with rfl
    rw [cell_of_row _ _ _ _ _ _ (show ((w2.alloc (.cells #[.int .u64 0, .int .u64 0, .int .u64 0, .int .u64 0, .int .i64 0, .slice x2 0 c2] 25)).alloc (.cells #[.int .u8 120] 5 (1, 2))).heap[w2.heap.size + 1]? = some (.cells #[.int .u8 120] 5 (1, 2)) by simpa using heap_alloc_new (w2.alloc (.cells #[.int .u64 0, .int .u64 0, .int .u64 0, .int .u64 0, .int .i64 0, .slice x2 0 c2] 25)) (.cells #[.int .u8 120] 5 (1, 2)))]
    rfl⟩
  refine (hEncode ⟨1, 0, 0, 0, 2, [120]⟩ ⟨by decide, by decide, by decide, by decide, by decide, by decide⟩ (w2.heap.size + 1) 0 1 (by decide) _ BX).mono ?_
  rintro e' w3 ⟨v3, rfl, b3, own3⟩
  rw [hp] at own3
  obtain ⟨g3, c3, rfl, hg3, hc3, hm3, B3⟩ := ownBytes own3 (by decide)
  have b03 : Below w.heap.size w w3 := b02.trans ((((Below.refl _ _).alloc (Nat.le_refl _) _).alloc (by simp) _ |>.mono (by omega)).trans (b3.mono (by simp; omega)))
  clear own3 b3 b02
  go_wp2_with (refine wpList_conv (by rfl) _ rfl g3 0 _ c3 rfl _ rfl B3 ?_)
  refine (hEcnB true _).mono ?_; rintro e' w' ⟨rfl, rfl⟩
  go_wp2_with fail
  go_ret
  exact ⟨rfl, b03⟩

end Go.Proofs.Ytofggpmllfhgaaa
