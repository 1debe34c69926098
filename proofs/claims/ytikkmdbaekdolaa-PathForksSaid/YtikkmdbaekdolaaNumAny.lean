/- Num, whatever lies there: a number and its bytes, or an error and nothing moved. -/
import Derived.Test.YtikkmdbaekdolaaNumPut
namespace Go.Proofs.Ytikkmdbaekdolaa
open Go.RowKit Go.Lib
set_option linter.unusedVariables false
set_option maxRecDepth 100000

/-- what Num may give of the bytes zs -/
def NumGives (zs : List Int) (p g o len c : Nat) (w : World) (e : Ending) (w' : World) : Prop :=
  (∃ k : Int, (k = 2 ∨ k = 5) ∧ e = .returned (.tuple #[.int .u64 0, .int .i64 k]) ∧ w = w') ∨
  (∃ (N : Int) (K : Nat), (0 ≤ N ∧ N ≤ 4611686018427387903) ∧ putA N = zs.take K ∧ K ≤ len ∧ e = .returned (.tuple #[.int .u64 N, .int .i64 0]) ∧ Moved p g o len c K w w')

theorem size_cases (n : Int) : (sizeI n = 1 ∧ n < 64) ∨ (sizeI n = 2 ∧ 64 ≤ n ∧ n < 16384) ∨ (sizeI n = 4 ∧ 16384 ≤ n ∧ n < 1073741824) ∨ (sizeI n = 8 ∧ 1073741824 ≤ n ∧ n ≤ 4611686018427387903) ∨ (sizeI n = 0 ∧ 4611686018427387903 < n) := by
  unfold sizeI
  split
  · omega
  split
  · omega
  split
  · omega
  split <;> omega

theorem oNumAny (zs : List Int) (hz : ∀ x ∈ zs, 0 ≤ x ∧ x ≤ 255) (p g o len c : Nat) (w : World) (h : w.cell? ⟨p, 0, none⟩ = some (.slice (some ⟨g, o, none⟩) len c)) (hf : w.frozen? ⟨p, 0, none⟩ = false)
    (B : BytesAt w g o zs) (hl : zs.length = len) (hc : len ≤ c ∧ c ≤ 9223372036854775807) (h1 : 1 ≤ len) :
    Calls Try.prog 137 #[.pointer (some ⟨p, 0, none⟩)] w fun e w' => NumGives zs p g o len c w e w' := by
  rcases zs with _ | ⟨b0, zs⟩
  · simp at hl; omega
  have r0 := hz b0 (by simp)
  have c0 := B.at 0 b0 rfl
  by_cases k1 : b0 < 64
  · have ev : b0 % 64 = b0 := by omega
    have := oNum1S p g o len c b0 w h hf c0 ⟨r0.1, k1⟩ ⟨h1, hc.1⟩ hc.2 (by rw [ev]; unfold sizeI; rw [if_pos k1])
    rw [ev] at this
    exact this.mono fun e w' h => .inr ⟨b0, 1, by omega, by unfold putA; rw [if_pos k1]; rfl, h1, h.1, h.2⟩
  by_cases k2 : b0 < 128
  · by_cases l2 : len < 2
    · exact (oNumCut p g o len c b0 w h c0 ⟨h1, hc.1, hc.2⟩ (.inl ⟨by omega, k2, l2⟩)).mono fun e w' h => .inl ⟨2, .inl rfl, h.1, h.2⟩
    rcases zs with _ | ⟨b1, zs⟩
    · simp at hl; omega
    have r1 := hz b1 (by simp)
    have c1 := B.at 1 b1 rfl
    have f1 := or_byte (b0 % 64) b1 (by omega) r1
    rcases size_cases (b0 % 64 * 256 + b1) with hs | hs | hs | hs | hs
    · exact (oNum2F p g o len c b0 b1 _ w h hf c0 c1 ⟨by omega, k2⟩ r1 f1 ⟨by omega, by omega⟩ ⟨by omega, hc.1⟩ hc.2 (by rw [hs.1]; rfl)).mono fun e w' h => .inl ⟨5, .inr rfl, h.1, h.2⟩
    · refine (oNum2S p g o len c b0 b1 _ w h hf c0 c1 ⟨by omega, k2⟩ r1 f1 ⟨by omega, by omega⟩ ⟨by omega, hc.1⟩ hc.2 hs.1).mono fun e w' h => .inr ⟨_, 2, by omega, ?_, by omega, h.1, h.2⟩
      unfold putA
      rw [if_neg (by omega), if_pos (by omega), show (b0 % 64 * 256 + b1) / 256 + 64 = b0 by omega, show (b0 % 64 * 256 + b1) % 256 = b1 by omega]
      rfl
    all_goals omega
  by_cases k4 : b0 < 192
  · by_cases l4 : len < 4
    · exact (oNumCut p g o len c b0 w h c0 ⟨h1, hc.1, hc.2⟩ (.inr (.inl ⟨by omega, k4, l4⟩))).mono fun e w' h => .inl ⟨2, .inl rfl, h.1, h.2⟩
    rcases zs with _ | ⟨b1, _ | ⟨b2, _ | ⟨b3, zs⟩⟩⟩
    · simp at hl; omega
    · simp at hl; omega
    · simp at hl; omega
    have r1 := hz b1 (by simp)
    have r2 := hz b2 (by simp)
    have r3 := hz b3 (by simp)
    have c1 := B.at 1 b1 rfl
    have c2 := B.at 2 b2 rfl
    have c3 := B.at 3 b3 rfl
    have f1 := or_byte (b0 % 64) b1 (by omega) r1
    have f2 := or_byte (b0 % 64 * 256 + b1) b2 (by omega) r2
    have f3 := or_byte ((b0 % 64 * 256 + b1) * 256 + b2) b3 (by omega) r3
    have hF : ∀ hs : (sizeI (((b0 % 64 * 256 + b1) * 256 + b2) * 256 + b3) != 4) = true, _ := fun hs => (oNum4F p g o len c b0 b1 b2 b3 _ _ _ w h hf c0 c1 c2 c3 ⟨by omega, k4⟩ r1 r2 r3 f1 ⟨by omega, by omega⟩ f2 ⟨by omega, by omega⟩ f3 ⟨by omega, by omega⟩ ⟨by omega, hc.1⟩ hc.2 hs).mono (R' := fun e w' => NumGives (b0 :: b1 :: b2 :: b3 :: zs) p g o len c w e w') fun e w' h => .inl ⟨5, .inr rfl, h.1, h.2⟩
    rcases size_cases (((b0 % 64 * 256 + b1) * 256 + b2) * 256 + b3) with hs | hs | hs | hs | hs
    · exact hF (by rw [hs.1]; rfl)
    · exact hF (by rw [hs.1]; rfl)
    · refine (oNum4S p g o len c b0 b1 b2 b3 _ _ _ w h hf c0 c1 c2 c3 ⟨by omega, k4⟩ r1 r2 r3 f1 ⟨by omega, by omega⟩ f2 ⟨by omega, by omega⟩ f3 ⟨by omega, by omega⟩ ⟨by omega, hc.1⟩ hc.2 hs.1).mono fun e w' h => .inr ⟨_, 4, by omega, ?_, by omega, h.1, h.2⟩
      unfold putA
      rw [if_neg (by omega), if_neg (by omega), if_pos (by omega), show (((b0 % 64 * 256 + b1) * 256 + b2) * 256 + b3) / 16777216 + 128 = b0 by omega, show (((b0 % 64 * 256 + b1) * 256 + b2) * 256 + b3) / 65536 % 256 = b1 by omega, show (((b0 % 64 * 256 + b1) * 256 + b2) * 256 + b3) / 256 % 256 = b2 by omega, show (((b0 % 64 * 256 + b1) * 256 + b2) * 256 + b3) % 256 = b3 by omega]
      rfl
    all_goals omega
  · by_cases l8 : len < 8
    · exact (oNumCut p g o len c b0 w h c0 ⟨h1, hc.1, hc.2⟩ (.inr (.inr ⟨by omega, r0.2, l8⟩))).mono fun e w' h => .inl ⟨2, .inl rfl, h.1, h.2⟩
    rcases zs with _ | ⟨b1, _ | ⟨b2, _ | ⟨b3, _ | ⟨b4, _ | ⟨b5, _ | ⟨b6, _ | ⟨b7, zs⟩⟩⟩⟩⟩⟩⟩
    iterate 7 (· simp at hl; omega)
    have r1 := hz b1 (by simp)
    have r2 := hz b2 (by simp)
    have r3 := hz b3 (by simp)
    have r4 := hz b4 (by simp)
    have r5 := hz b5 (by simp)
    have r6 := hz b6 (by simp)
    have r7 := hz b7 (by simp)
    have c1 := B.at 1 b1 rfl
    have c2 := B.at 2 b2 rfl
    have c3 := B.at 3 b3 rfl
    have c4 := B.at 4 b4 rfl
    have c5 := B.at 5 b5 rfl
    have c6 := B.at 6 b6 rfl
    have c7 := B.at 7 b7 rfl
    obtain ⟨v1, e1⟩ : ∃ v, v = b0 % 64 * 256 + b1 := ⟨_, rfl⟩
    obtain ⟨v2, e2⟩ : ∃ v, v = v1 * 256 + b2 := ⟨_, rfl⟩
    obtain ⟨v3, e3⟩ : ∃ v, v = v2 * 256 + b3 := ⟨_, rfl⟩
    obtain ⟨v4, e4⟩ : ∃ v, v = v3 * 256 + b4 := ⟨_, rfl⟩
    obtain ⟨v5, e5⟩ : ∃ v, v = v4 * 256 + b5 := ⟨_, rfl⟩
    obtain ⟨v6, e6⟩ : ∃ v, v = v5 * 256 + b6 := ⟨_, rfl⟩
    obtain ⟨v7, e7⟩ : ∃ v, v = v6 * 256 + b7 := ⟨_, rfl⟩
    have t1 : 0 ≤ v1 ∧ v1 ≤ 16383 := by omega
    have t2 : 0 ≤ v2 ∧ v2 ≤ 4194303 := by omega
    have t3 : 0 ≤ v3 ∧ v3 ≤ 1073741823 := by omega
    have t4 : 0 ≤ v4 ∧ v4 ≤ 274877906943 := by omega
    have t5 : 0 ≤ v5 ∧ v5 ≤ 70368744177663 := by omega
    have t6 : 0 ≤ v6 ∧ v6 ≤ 18014398509481983 := by omega
    have t7 : 0 ≤ v7 ∧ v7 ≤ 4611686018427387903 := by omega
    have f1 : bits .or .u64 (b0 % 64 * 256) b1 = v1 := by rw [or_byte (b0 % 64) b1 (by omega) r1, e1]
    have f2 : bits .or .u64 (v1 * 256) b2 = v2 := by rw [or_byte v1 b2 (by omega) r2, e2]
    have f3 : bits .or .u64 (v2 * 256) b3 = v3 := by rw [or_byte v2 b3 (by omega) r3, e3]
    have f4 : bits .or .u64 (v3 * 256) b4 = v4 := by rw [or_byte v3 b4 (by omega) r4, e4]
    have f5 : bits .or .u64 (v4 * 256) b5 = v5 := by rw [or_byte v4 b5 (by omega) r5, e5]
    have f6 : bits .or .u64 (v5 * 256) b6 = v6 := by rw [or_byte v5 b6 (by omega) r6, e6]
    have f7 : bits .or .u64 (v6 * 256) b7 = v7 := by rw [or_byte v6 b7 (by omega) r7, e7]
    have hF : ∀ hs : (sizeI v7 != 8) = true, _ := fun hs => (oNum8F p g o len c b0 b1 b2 b3 b4 b5 b6 b7 v1 v2 v3 v4 v5 v6 v7 w h hf c0 c1 c2 c3 c4 c5 c6 c7 ⟨by omega, by omega⟩ r1 r2 r3 r4 r5 r6 r7 f1 t1 f2 t2 f3 t3 f4 t4 f5 t5 f6 t6 f7 t7 ⟨by omega, hc.1⟩ hc.2 hs).mono (R' := fun e w' => NumGives (b0 :: b1 :: b2 :: b3 :: b4 :: b5 :: b6 :: b7 :: zs) p g o len c w e w') fun e w' h => .inl ⟨5, .inr rfl, h.1, h.2⟩
    rcases size_cases v7 with hs | hs | hs | hs | hs
    · exact hF (by rw [hs.1]; rfl)
    · exact hF (by rw [hs.1]; rfl)
    · exact hF (by rw [hs.1]; rfl)
    · refine (oNum8S p g o len c b0 b1 b2 b3 b4 b5 b6 b7 v1 v2 v3 v4 v5 v6 v7 w h hf c0 c1 c2 c3 c4 c5 c6 c7 ⟨by omega, by omega⟩ r1 r2 r3 r4 r5 r6 r7 f1 t1 f2 t2 f3 t3 f4 t4 f5 t5 f6 t6 f7 t7 ⟨by omega, hc.1⟩ hc.2 hs.1).mono fun e w' h => .inr ⟨v7, 8, t7, ?_, by omega, h.1, h.2⟩
      unfold putA
      rw [if_neg (by omega), if_neg (by omega), if_neg (by omega), show v7 / 72057594037927936 + 192 = b0 by omega, show v7 / 281474976710656 % 256 = b1 by omega, show v7 / 1099511627776 % 256 = b2 by omega, show v7 / 4294967296 % 256 = b3 by omega, show v7 / 16777216 % 256 = b4 by omega, show v7 / 65536 % 256 = b5 by omega, show v7 / 256 % 256 = b6 by omega, show v7 % 256 = b7 by omega]
      rfl
    · omega

end Go.Proofs.Ytikkmdbaekdolaa
