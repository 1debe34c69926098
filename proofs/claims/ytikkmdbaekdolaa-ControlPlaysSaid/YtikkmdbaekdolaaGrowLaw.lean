/- what a window grows by, plainly. -/
import Derived.Test.YtikkmdbaekdolaaGrowJ
import Derived.Test.YtikkmdbaekdolaaCurve
namespace Go.Proofs.Ytikkmdbaekdolaa
open Go.RowKit Go.Lib
set_option linter.unusedVariables false
set_option maxRecDepth 100000

theorem le_of_mul {a b c : Int} (hc : 0 < c) (h : a * c ≤ b * c) : a ≤ b := Int.le_of_mul_le_mul_right h hc

theorem grC_le (c p e k ak m n s : Int) (hc : 0 < c ∧ c ≤ 2147483648) (hak : 0 ≤ ak ∧ ak ≤ 8589934592) :
    c ≤ grC c p e k ak m n s ∧ grC c p e k ak m n s ≤ c + ak / 2 := by
  have h32 := downI_le c 3 2 (by omega) (by omega) (by omega)
  have x0 : 0 ≤ grAim c p e k m n s - c := by unfold grAim; omega
  have x1 : 2 * (grAim c p e k m n s - c) ≤ c := by unfold grAim; omega
  unfold grC
  generalize grAim c p e k m n s - c = x at *
  have hd := downI_le x ak c x0 hak.1 hc.1
  have d0 := (downI_W x ak c).1
  generalize downI x ak c = d at *
  have h1 : 2 * x * ak ≤ c * ak := Int.mul_le_mul_of_nonneg_right x1 hak.1
  have h2 : (2 * d) * c ≤ ak * c := by rw [Int.mul_assoc, Int.mul_comm ak c]; rw [Int.mul_assoc] at h1; omega
  have h3 := le_of_mul hc.1 h2
  unfold addI
  omega
theorem more_le (c p f ak m : Int) (hc : 0 < c) (hak : 0 ≤ ak) (hm : 0 ≤ m) :
    0 ≤ grMore c p f ak m ∧ grMore c p f ak m ≤ m * ak ∧ (m ≤ c → grMore c p f ak m ≤ ak) := by
  have h1 := downI_le m ak c hm hak hc
  have d0 := (downI_W m ak c).1
  have h2 := downI_le (downI m ak c) 9 17 d0 (by omega) (by omega)
  have e0 := (downI_W (downI m ak c) 9 17).1
  have k1 : grMore c p f ak m ≤ downI m ak c ∧ 0 ≤ grMore c p f ak m := by
    unfold grMore
    split <;> omega
  generalize grMore c p f ak m = g at *
  generalize downI m ak c = d at *
  have k2 : d * 1 ≤ d * c := Int.mul_le_mul_of_nonneg_left (by omega) d0
  refine ⟨k1.2, by omega, fun hmc => ?_⟩
  have k3 : m * ak ≤ c * ak := Int.mul_le_mul_of_nonneg_right hmc hak
  have k4 : d * c ≤ ak * c := by rw [Int.mul_comm ak c]; omega
  have := le_of_mul hc k4
  omega

/-- beyond the threshold -/
theorem holds (c t p e k f ak m n s : Int) (hc : 0 < c ∧ c ≤ 1073741824) (ht : t ≤ c) (hf : 0 ≤ f ∧ f ≤ 1073741823) (hak : 0 ≤ ak ∧ ak ≤ 4294967295) (hm : 0 ≤ m ∧ m ≤ 65535) :
    c ≤ gwC c t p e k f ak m n s ∧ (gwC c t p e k f ak m n s ≤ c + ak / 2 ∨ gwC c t p e k f ak m n s = gwF c t p e f ak m) ∧ gwF c t p e f ak m ≤ max f c + mulI m ak ∧ 0 ≤ mulI m ak ∧ mulI m ak ≤ 281474976710656 ∧ 0 ≤ gwF c t p e f ak m := by
  have h1 := grC_le c (gP c p e) (gE e n) (gK c p e k m) ak m n s ⟨hc.1, by omega⟩ ⟨hak.1, by omega⟩
  obtain ⟨g1, g2, _⟩ := more_le c (gP c p e) (gF c e f) ak m hc.1 hak.1 hm.1
  have hF : 0 ≤ gF c e f ∧ gF c e f ≤ max f c := by unfold gF; split <;> omega
  have hp : m * ak ≤ 65535 * 4294967295 := Int.mul_le_mul hm.2 hak.2 hak.1 (by omega)
  have hp0 : 0 ≤ m * ak := Int.mul_nonneg hm.1 hak.1
  unfold gwC gwF
  rw [if_neg (by omega), if_neg (by omega), if_neg (by omega), if_neg (by omega)]
  unfold grF addI mulI
  generalize grC c (gP c p e) (gE e n) (gK c p e k m) ak m n s = x at *
  generalize grMore c (gP c p e) (gF c e f) ak m = y at *
  generalize m * ak = q at *
  omega

/-- whatever is acknowledged -/
theorem growPlays (c t p e k f ak m n s M : Int) (hm : 1 ≤ m ∧ m ≤ 256) (hc : m ≤ c) (hM : c ≤ M) (hf : 0 ≤ f ∧ f ≤ M) (hM2 : M ≤ 1000000000) (hak : 0 ≤ ak ∧ ak ≤ 65535) :
    c ≤ gwC c t p e k f ak m n s ∧ gwC c t p e k f ak m n s ≤ M + ak ∧ 0 ≤ gwF c t p e f ak m ∧ gwF c t p e f ak m ≤ M + ak := by
  have h1 := grC_le c (gP c p e) (gE e n) (gK c p e k m) ak m n s ⟨by omega, by omega⟩ ⟨hak.1, by omega⟩
  obtain ⟨g1, g2, g3⟩ := more_le c (gP c p e) (gF c e f) ak m (by omega) hak.1 (by omega)
  have g4 := g3 hc
  have hF : 0 ≤ gF c e f ∧ gF c e f ≤ M := by unfold gF; split <;> omega
  unfold gwC gwF
  by_cases h : c < t
  · rw [if_pos h, if_pos h]
    unfold slowI addI mulI
    omega
  · rw [if_neg h, if_neg (by omega), if_neg h, if_neg (by omega)]
    unfold grF addI
    generalize grC c (gP c p e) (gE e n) (gK c p e k m) ak m n s = x at *
    generalize grMore c (gP c p e) (gF c e f) ak m = y at *
    generalize m * ak = q at *
    omega
theorem gw_W (c t p e k f ak m n s : Int) (hc : W64 c) (hp : W64 p) (he : W64 e) (hk : W64 k) (hn : W64 n) : W64 (gwP c t p e) ∧ W64 (gwE c t e n) ∧ W64 (gwK c t p e k m) := by
  have hl := longI_W p c m
  unfold gwP gwE gwK gP gE gK W64 at *
  refine ⟨?_, ?_, ?_⟩ <;> split <;> (try split) <;> omega
theorem cutP_W (c p : Int) (hc : W64 c) : W64 (cutP c p) := by
  unfold cutP
  split
  · exact downI_W _ _ _
  · exact hc
theorem cut7 (c m : Int) (hm : 1 ≤ m) (hc : 2 * m ≤ c) (hc2 : c ≤ 1000000000) : m ≤ downI c 7 10 ∧ downI c 7 10 ≤ c := by
  have e : downI c 7 10 = c * 7 / 10 := by
    obtain ⟨C, rfl⟩ := Int.eq_ofNat_of_zero_le (show 0 ≤ c by omega)
    unfold downI nDown
    rw [if_neg (by decide), Nat.min_eq_left]
    · simp only [Int.toNat_natCast]
      show ((C * 7 / 10 : Nat) : Int) = _
      omega
    · show C * 7 / 10 ≤ _
      omega
  rw [e]
  omega

end Go.Proofs.Ytikkmdbaekdolaa
