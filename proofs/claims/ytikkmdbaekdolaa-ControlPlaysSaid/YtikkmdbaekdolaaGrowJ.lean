/- cubic.Grow, and the reference's: one contract for all windows. -/
import Derived.Test.YtikkmdbaekdolaaGrow
import Derived.Test.YtikkmdbaekdolaaGrowOldLo
import Derived.Test.YtikkmdbaekdolaaGrowOldHi
import Derived.Test.YtikkmdbaekdolaaGrowNewLo
import Derived.Test.YtikkmdbaekdolaaGrowNewHi
namespace Go.Proofs.Ytikkmdbaekdolaa
open Go.RowKit Go.Lib
set_option linter.unusedVariables false
set_option maxRecDepth 100000
set_option linter.unusedSimpArgs false

/-- the epoch that has begun -/
def gP (c p e : Int) : Int := if e = 18446744073709551615 then max p c else p
def gE (e n : Int) : Int := if e = 18446744073709551615 then n else e
def gK (c p e k m : Int) : Int := if e = 18446744073709551615 then longI p c m else k
def gF (c e f : Int) : Int := if e = 18446744073709551615 then c else f
/-- the window behind an acknowledgment -/
def gwC (c t p e k f ak m n s : Int) : Int := if c < t then slowI c ak m else if c = 0 then 0 else max (grC c (gP c p e) (gE e n) (gK c p e k m) ak m n s) (grF c (gP c p e) (gF c e f) ak m)
def gwP (c t p e : Int) : Int := if c < t then p else gP c p e
def gwE (c t e n : Int) : Int := if c < t then e else gE e n
def gwK (c t p e k m : Int) : Int := if c < t then k else gK c p e k m
def gwF (c t p e f ak m : Int) : Int := if c < t then f else if c = 0 then gF c e f else grF c (gP c p e) (gF c e f) ak m
theorem gw_eq {a b c d e f g a' b' c' d' e' f' g' : Int} (h1 : a = a') (h2 : b = b') (h3 : c = c') (h4 : d = d') (h5 : e = e') (h6 : f = f') (h7 : g = g') :
    Ending.returned (.agg #[.int .u64 a, .int .u64 b, .int .u64 c, .int .u64 d, .int .u64 e, .int .u64 f, .int .u64 g]) = .returned (.agg #[.int .u64 a', .int .u64 b', .int .u64 c', .int .u64 d', .int .u64 e', .int .u64 f', .int .u64 g']) := by rw [h1, h2, h3, h4, h5, h6, h7]
theorem tGrow (c t a p e k f ak m n s : Int) (hc : W64 c) (hp : W64 p) (he : W64 e) (hk : W64 k) (hf : W64 f) (hak : W64 ak) (hm : W64 m) (hn : W64 n) (hs : W64 s) (w : World) :
    Calls Try.prog 70 #[.agg #[.int .u64 c, .int .u64 t, .int .u64 a, .int .u64 p, .int .u64 e, .int .u64 k, .int .u64 f], .int .u64 ak, .int .u64 m, .int .u64 n, .int .u64 s] w fun e' w' => e' = .returned (.agg #[.int .u64 (gwC c t p e k f ak m n s), .int .u64 t, .int .u64 a, .int .u64 (gwP c t p e), .int .u64 (gwE c t e n), .int .u64 (gwK c t p e k m), .int .u64 (gwF c t p e f ak m)]) ∧ Gr w w' := by
  have c0 := hc.1
  by_cases h : c < t
  · exact (tGrowSlow c t a p e k f ak m n s hc hp he hk hf hak hm hn hs h w).mono fun _ _ H => ⟨H.1.trans (gw_eq (by unfold gwC gP gE gK gF; simp [h]) rfl rfl (by unfold gwP gP; simp [h]) (by unfold gwE gE; simp [h]) (by unfold gwK gK; simp [h]) (by unfold gwF gP gF; simp [h])), H.2⟩
  · have h' : t ≤ c := by omega
    by_cases h1 : e = 18446744073709551615
    · by_cases h2 : c = 0
      · subst h2
        have hp0 : max p 0 = p := by have := hp.1; omega
        exact (tGrowNewZero 0 t a p e k f ak m n s hc hp he hk hf hak hm hn hs (by omega) h1 rfl w).mono fun _ _ H => ⟨H.1.trans (gw_eq (by unfold gwC gP gE gK gF; simp [h, h1, hp0]) rfl rfl (by unfold gwP gP; simp [h, h1, hp0]) (by unfold gwE gE; simp [h, h1, hp0]) (by unfold gwK gK; simp [h, h1, hp0]) (by unfold gwF gP gF; simp [h, h1, hp0])), H.2⟩
      · by_cases h3 : c < p
        · have hm' : max p c = p := by omega
          exact (tGrowNewLo c t a p e k f ak m n s hc hp he hk hf hak hm hn hs h' h1 (by omega) h3 w).mono fun _ _ H => ⟨H.1.trans (gw_eq (by unfold gwC gP gE gK gF; simp [h, h1, h2, hm']) rfl rfl (by unfold gwP gP; simp [h, h1, h2, hm']) (by unfold gwE gE; simp [h, h1, h2, hm']) (by unfold gwK gK; simp [h, h1, h2, hm']) (by unfold gwF gP gF; simp [h, h1, h2, hm'])), H.2⟩
        · exact (tGrowNewHi c t a p e k f ak m n s hc hp he hk hf hak hm hn hs h' h1 (by omega) (by omega) w).mono fun _ _ H => ⟨H.1.trans (gw_eq (by unfold gwC gP gE gK gF; simp [h, h1, h2]) rfl rfl (by unfold gwP gP; simp [h, h1, h2]) (by unfold gwE gE; simp [h, h1, h2]) (by unfold gwK gK; simp [h, h1, h2]) (by unfold gwF gP gF; simp [h, h1, h2])), H.2⟩
    · have hb : (e == 18446744073709551615) = false := by rw [beq_eq_false_iff_ne]; exact h1
      by_cases h2 : c = 0
      · subst h2
        exact (tGrowOldZero 0 t a p e k f ak m n s hc hp he hk hf hak hm hn hs (by omega) hb rfl w).mono fun _ _ H => ⟨H.1.trans (gw_eq (by unfold gwC gP gE gK gF; simp [h, h1]) rfl rfl (by unfold gwP gP; simp [h, h1]) (by unfold gwE gE; simp [h, h1]) (by unfold gwK gK; simp [h, h1]) (by unfold gwF gP gF; simp [h, h1])), H.2⟩
      · by_cases h3 : f < p
        · exact (tGrowOldLo c t a p e k f ak m n s hc hp he hk hf hak hm hn hs h' hb (by omega) h3 w).mono fun _ _ H => ⟨H.1.trans (gw_eq (by unfold gwC gP gE gK gF; simp [h, h1, h2]) rfl rfl (by unfold gwP gP; simp [h, h1, h2]) (by unfold gwE gE; simp [h, h1, h2]) (by unfold gwK gK; simp [h, h1, h2]) (by unfold gwF gP gF; simp [h, h1, h2])), H.2⟩
        · exact (tGrowOldHi c t a p e k f ak m n s hc hp he hk hf hak hm hn hs h' hb (by omega) (by omega) w).mono fun _ _ H => ⟨H.1.trans (gw_eq (by unfold gwC gP gE gK gF; simp [h, h1, h2]) rfl rfl (by unfold gwP gP; simp [h, h1, h2]) (by unfold gwE gE; simp [h, h1, h2]) (by unfold gwK gK; simp [h, h1, h2]) (by unfold gwF gP gF; simp [h, h1, h2])), H.2⟩
theorem rGrow (c t a p e k f ak m n s : Int) (hc : W64 c) (hp : W64 p) (he : W64 e) (hk : W64 k) (hf : W64 f) (hak : W64 ak) (hm : W64 m) (hn : W64 n) (hs : W64 s) (w : World) :
    Calls Try.prog 74 #[.agg #[.int .u64 c, .int .u64 t, .int .u64 a, .int .u64 p, .int .u64 e, .int .u64 k, .int .u64 f], .int .u64 ak, .int .u64 m, .int .u64 n, .int .u64 s] w fun e' w' => e' = .returned (.agg #[.int .u64 (gwC c t p e k f ak m n s), .int .u64 t, .int .u64 a, .int .u64 (gwP c t p e), .int .u64 (gwE c t e n), .int .u64 (gwK c t p e k m), .int .u64 (gwF c t p e f ak m)]) ∧ Gr w w' := by
  have c0 := hc.1
  by_cases h : c < t
  · exact (rGrowSlow c t a p e k f ak m n s hc hp he hk hf hak hm hn hs h w).mono fun _ _ H => ⟨H.1.trans (gw_eq (by unfold gwC gP gE gK gF; simp [h]) rfl rfl (by unfold gwP gP; simp [h]) (by unfold gwE gE; simp [h]) (by unfold gwK gK; simp [h]) (by unfold gwF gP gF; simp [h])), H.2⟩
  · have h' : t ≤ c := by omega
    by_cases h1 : e = 18446744073709551615
    · by_cases h2 : c = 0
      · subst h2
        have hp0 : max p 0 = p := by have := hp.1; omega
        exact (rGrowNewZero 0 t a p e k f ak m n s hc hp he hk hf hak hm hn hs (by omega) h1 rfl w).mono fun _ _ H => ⟨H.1.trans (gw_eq (by unfold gwC gP gE gK gF; simp [h, h1, hp0]) rfl rfl (by unfold gwP gP; simp [h, h1, hp0]) (by unfold gwE gE; simp [h, h1, hp0]) (by unfold gwK gK; simp [h, h1, hp0]) (by unfold gwF gP gF; simp [h, h1, hp0])), H.2⟩
      · by_cases h3 : c < p
        · have hm' : max p c = p := by omega
          exact (rGrowNewLo c t a p e k f ak m n s hc hp he hk hf hak hm hn hs h' h1 (by omega) h3 w).mono fun _ _ H => ⟨H.1.trans (gw_eq (by unfold gwC gP gE gK gF; simp [h, h1, h2, hm']) rfl rfl (by unfold gwP gP; simp [h, h1, h2, hm']) (by unfold gwE gE; simp [h, h1, h2, hm']) (by unfold gwK gK; simp [h, h1, h2, hm']) (by unfold gwF gP gF; simp [h, h1, h2, hm'])), H.2⟩
        · exact (rGrowNewHi c t a p e k f ak m n s hc hp he hk hf hak hm hn hs h' h1 (by omega) (by omega) w).mono fun _ _ H => ⟨H.1.trans (gw_eq (by unfold gwC gP gE gK gF; simp [h, h1, h2]) rfl rfl (by unfold gwP gP; simp [h, h1, h2]) (by unfold gwE gE; simp [h, h1, h2]) (by unfold gwK gK; simp [h, h1, h2]) (by unfold gwF gP gF; simp [h, h1, h2])), H.2⟩
    · have hb : (e == 18446744073709551615) = false := by rw [beq_eq_false_iff_ne]; exact h1
      by_cases h2 : c = 0
      · subst h2
        exact (rGrowOldZero 0 t a p e k f ak m n s hc hp he hk hf hak hm hn hs (by omega) hb rfl w).mono fun _ _ H => ⟨H.1.trans (gw_eq (by unfold gwC gP gE gK gF; simp [h, h1]) rfl rfl (by unfold gwP gP; simp [h, h1]) (by unfold gwE gE; simp [h, h1]) (by unfold gwK gK; simp [h, h1]) (by unfold gwF gP gF; simp [h, h1])), H.2⟩
      · by_cases h3 : f < p
        · exact (rGrowOldLo c t a p e k f ak m n s hc hp he hk hf hak hm hn hs h' hb (by omega) h3 w).mono fun _ _ H => ⟨H.1.trans (gw_eq (by unfold gwC gP gE gK gF; simp [h, h1, h2]) rfl rfl (by unfold gwP gP; simp [h, h1, h2]) (by unfold gwE gE; simp [h, h1, h2]) (by unfold gwK gK; simp [h, h1, h2]) (by unfold gwF gP gF; simp [h, h1, h2])), H.2⟩
        · exact (rGrowOldHi c t a p e k f ak m n s hc hp he hk hf hak hm hn hs h' hb (by omega) (by omega) w).mono fun _ _ H => ⟨H.1.trans (gw_eq (by unfold gwC gP gE gK gF; simp [h, h1, h2]) rfl rfl (by unfold gwP gP; simp [h, h1, h2]) (by unfold gwE gE; simp [h, h1, h2]) (by unfold gwK gK; simp [h, h1, h2]) (by unfold gwF gP gF; simp [h, h1, h2])), H.2⟩
end Go.Proofs.Ytikkmdbaekdolaa
