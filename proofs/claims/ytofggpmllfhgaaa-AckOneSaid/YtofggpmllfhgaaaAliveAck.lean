/- The examples of the document, chapter 9: alive returns true. -/
import Derived.Test.YtofggpmllfhgaaaAckOne
namespace Go.Proofs.Ytofggpmllfhgaaa
open Go.RowKit Go.Lib
set_option linter.unusedVariables false
set_option maxRecDepth 100000

set_option maxHeartbeats 4000000 in
theorem aliveAck (w : World) : Calls Try.prog 27 #[] w fun e w' => e = .returned (.bool true) ∧ Below w.heap.size w w' := by
  have hs1 : (strOfNums [2, 1, 1, 1, 0]).toList = [2, 1, 1, 1, 0] := by
    rw [ByteArray.toList_eq]
    rfl
  have hs2 : (strOfNums [3, 5]).toList = [3, 5] := by
    rw [ByteArray.toList_eq]
    rfl
  have hp : [2] ++ ([1] ++ putA 1 ++ putA (2 - 1)) ++ [0] ++ eightL 0 ++ eightL 0 ++ [1] = [2, 1, 1, 1, 0, 0, 0, 0, 0, 0, 0, 0, 0, 0, 0, 0, 0, 0, 0, 0, 0, 1] := by decide
  have hn : 1 + (1 + (putA 1).length + (putA (2 - 1)).length) + 1 + 8 + 8 + 1 = 22 := by decide
  have hq : 3 :: putA 5 = [3, 5] := by decide
  have hr : 1 + (putA 5).length = 2 := by decide
  go_enter Try.func27, Try.ntmps27
  go_wp2_with fail
  refine (aDecodeOne (.slice (some ⟨w.heap.size, 0, none⟩) 1 1) 2 (by omega) _ (.inr ⟨w.heap.size, 0, 1, rfl, by simp, by simp, by omega, by simp, fun i hi => ?_⟩)).mono ?_
  · rcases (by simp at hi; omega : i = 0) with rfl
    go_simp
  rintro e' w1 ⟨rfl, b1⟩
  have b01 : Below w.heap.size w w1 := ((Below.refl _ _).alloc (Nat.le_refl _) _).trans (b1.mono (by simp))
  have s1 := b01.size
  clear b1
  go_wp2_with fail
  refine (aDecodeOne (.slice (some ⟨w1.heap.size + 1, 0, none⟩) 1 1) 3 (by omega) _ (.inr ⟨w1.heap.size + 1, 0, 1, rfl, by simp, by simp, by omega, by simp, fun i hi => ?_⟩)).mono ?_
  · rcases (by simp at hi; omega : i = 0) with rfl
    go_simp
  rintro e' w2 ⟨rfl, b2⟩
  have b02 : Below w.heap.size w w2 := b01.trans ((((Below.refl _ _).alloc (Nat.le_refl _) _).alloc (by simp) _ |>.mono s1).trans (b2.mono (by simp; omega)))
  have s2 := b02.size
  clear b2 b01
  go_wp2_with fail
  have SP : SpanAt ((w2.alloc (.cells #[.slice none 0 0, .slice none 0 0, .int .u64 0, .int .u64 0, .bool false] 52)).alloc (.cells #[.int .u64 1, .int .u64 2] 84)) (w2.heap.size + 1) 0 1 2 := ⟨by simp, by go_simp, by go_simp⟩
  refine (aEncode1 (w2.heap.size + 1) 0 1 1 2 0 0 (by decide) (by decide) (by decide) ⟨by decide, by decide⟩ ⟨by decide, by decide⟩ _ SP).mono ?_; rintro e' w3 ⟨v3, rfl, b3, own3⟩
  rw [hp, hn] at own3
  obtain ⟨g3, c3, rfl, hg3, hc3, hm3, B3⟩ := ownBytes own3 (by decide)
  have b03 : Below w.heap.size w w3 := b02.trans ((((Below.refl _ _).alloc (Nat.le_refl _) _).alloc (by simp) _ |>.mono s2).trans (b3.mono (by simp; omega)))
  clear own3 b3 b02
  go_wp2_with fail
  refine (aChal 5 (by decide) _).mono ?_; rintro e' w4 ⟨v4, rfl, b34, own4⟩
  rw [hq, hr] at own4
  obtain ⟨g4, c4, rfl, hg4, hc4, hm4, B4⟩ := ownBytes own4 (by decide)
  have b04 := b03.trans (b34.mono b03.size)
  have B34 := B3.below b34
  have B5 : BytesAt w4 g3 0 [2, 1, 1, 1, 0] := B34.take' 5
  have c21 : w4.cell? ⟨g3, 21, none⟩ = some (.int .u8 1) := B34.2 21 (by decide)
  have k3 : (5 : Int) ≤ (c3 : Int) := by omega
  have k4 : 5 ≤ c3 := by omega
  have k5 : ¬ (c3 : Int) < 5 := by omega
  clear own4 b34 b03 B3 B34
  go_wp2_with (first
    | (refine wpList_conv (by rfl) (.tmp 47) rfl g3 0 5 c3 rfl [2, 1, 1, 1, 0] rfl B5 ?_)
    | (refine wpList_conv (by rfl) (.tmp 61) rfl g4 0 2 c4 rfl [3, 5] rfl B4 ?_))
  go_ret
  exact ⟨rfl, b04⟩

end Go.Proofs.Ytofggpmllfhgaaa
