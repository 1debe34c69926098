/- package cubic, and the reference's: how long to the peak, the curve, a cut. -/
import Derived.Test.YtikkmdbaekdolaaRoot
import Derived.Test.YtikkmdbaekdolaaReno
import Derived.Test.YtikkmdbaekdolaaQuiet
import Derived.Deep.RegionHeld3
namespace Go.Proofs.Ytikkmdbaekdolaa
open Go.RowKit Go.Lib
set_option linter.unusedVariables false
set_option maxRecDepth 100000

/-- how many microseconds from c to the peak p -/
def longI (p c m : Int) : Int := if p ≤ c ∨ m = 0 then 0 else cubeI (mulHi (p - c) 2500000000000000000 / m) (divQ (mulHi (p - c) 2500000000000000000 % m) (mulLo (p - c) 2500000000000000000) m)
theorem longI_W (p c m : Int) : 0 ≤ longI p c m ∧ longI p c m < 8796093022208 := by
  unfold longI
  split
  · omega
  · exact cubeI_W _ _
/-- the curve's height -/
def curveZ (k t m : Int) : Int := downI (downI (downI (diffI t k) (diffI t k) 1000000) (diffI t k) 1000000) (mulI 2 m) 5000000
def atI (p k t m : Int) : Int := if k ≤ t then addI p (curveZ k t m) else subI p (curveZ k t m)
theorem curveZ_W (k t m : Int) : W64 (curveZ k t m) := downI_W _ _ _
theorem atI_W (p k t m : Int) (hp : W64 p) : W64 (atI p k t m) := by
  unfold atI
  split
  · exact addI_W _ _ hp (curveZ_W _ _ _)
  · exact subI_W _ _ hp (curveZ_W _ _ _)
theorem div_W {h m : Int} (hh : W64 h) (hm : 0 < m) : W64 (h / m) := by
  unfold W64 at *
  have h1 : 0 ≤ h / m := Int.ediv_nonneg hh.1 (by omega)
  have h2 : h / m ≤ h := Int.ediv_le_self m hh.1
  omega
theorem mod_W {h m : Int} (hh : W64 h) (hm : 0 < m) : W64 (h % m) ∧ h % m < m := by
  have h1 := Int.emod_nonneg h (show m ≠ 0 by omega)
  have h2 := Int.emod_lt_of_pos h hm
  have h3 : m * (h / m) + h % m = h := Int.mul_ediv_add_emod h m
  have h4 : 0 ≤ m * (h / m) := Int.mul_nonneg (by omega) (Int.ediv_nonneg hh.1 (by omega))
  unfold W64 at *
  omega
theorem quo_W {hi lo d : Int} (hh : W64 hi) (hl : W64 lo) (hd : W64 d) (hlt : hi < d) : W64 (divQ hi lo d) := by
  unfold W64 at *
  unfold divQ
  have h0 : 0 ≤ (hi * 18446744073709551616 + lo) / d := Int.ediv_nonneg (by omega) (by omega)
  have h1 : (hi * 18446744073709551616 + lo) / d < 18446744073709551616 := (Int.ediv_lt_iff_lt_mul (by omega)).2 (by
    have : (hi + 1) * 18446744073709551616 ≤ d * 18446744073709551616 := Int.mul_le_mul_of_nonneg_right (by omega) (by omega)
    rw [Int.mul_comm 18446744073709551616 d]
    omega)
  omega
set_option maxHeartbeats 1000000 in
theorem tLong (p c m : Int) (hp : W64 p) (hc : W64 c) (hm : W64 m) (w : World) :
    Calls Try.prog 107 #[.int .u64 p, .int .u64 c, .int .u64 m] w fun e w' => e = .returned (.int .u64 (longI p c m)) ∧ ∃ n, w.drewN n = w' := by
  by_cases h1 : p ≤ c
  · have He : Hid (0 = longI p c m) := by show _ = _; unfold longI; rw [if_pos (.inl h1)]
    go_enter Try.func107, Try.ntmps107
    go_wp2_with fail
    go_ret
    exact ⟨ret_int He.out, ⟨0, rfl⟩⟩
  · have h2 : c < p := by omega
    clear h1
    by_cases h0 : m = 0
    · subst h0
      have He : Hid (0 = longI p c 0) := by show _ = _; unfold longI; rw [if_pos (.inr rfl)]
      go_enter Try.func107, Try.ntmps107
      go_wp2_with fail
      go_ret
      exact ⟨ret_int He.out, ⟨0, rfl⟩⟩
    · have hm0 : 0 < m := by have := hm.1; omega
      have hmb : (m == 0) = false := by rw [beq_eq_false_iff_ne]; exact h0
      have hk : W64 2500000000000000000 := ⟨by omega, by omega⟩
      have hd : W64 (p - c) := by unfold W64 at *; omega
      have hh := mulHi_W (p - c) 2500000000000000000 hd hk
      have hl := mulLo_W (p - c) 2500000000000000000
      obtain ⟨h, eh⟩ : ∃ h, mulHi (p - c) 2500000000000000000 = h := ⟨_, rfl⟩
      obtain ⟨l, el⟩ : ∃ l, mulLo (p - c) 2500000000000000000 = l := ⟨_, rfl⟩
      rw [eh] at hh
      rw [el] at hl
      have He : Hid (cubeI (h / m) (divQ (h % m) l m) = longI p c m) := by show _ = _; unfold longI; rw [if_neg (by omega), eh, el]
      have hh0 : 0 ≤ h := hh.1
      obtain ⟨hm1, hm2⟩ := mod_W hh hm0
      have Q := Lib.hid (quo_W hm1 hl hm hm2)
      have D := Lib.hid (div_W hh hm0)
      have HQ : Hid (IntKind.u64.wrap (h.tdiv m) = h / m) := by show _ = _; have := D.out; unfold W64 at this; rw [Int.tdiv_eq_ediv_of_nonneg hh0, IntKind.wrap_u64]; omega
      have HM1 := Lib.hid hm1
      have HM2 := Lib.hid hm2
      have HL := Lib.hid hl
      have HM := Lib.hid hm
      have HP := Lib.hid hd
      have HK := Lib.hid hk
      have EH := Lib.hid eh
      have EL := Lib.hid el
      have hp1 : p ≤ 18446744073709551615 := hp.2
      have hc0 : 0 ≤ c := hc.1
      clear hm1 hm2 hl hm hk hd eh el h0 hh hp hc
      go_enter Try.func107, Try.ntmps107
      go_wp2_with fail
      refine (wMul (p - c) 2500000000000000000 HP.out HK.out _).mono ?_; rintro e' w' ⟨rfl, rfl⟩
      rw [EH.out, EL.out]
      go_wp2_with fail
      refine (wDivYes (h % m) l m HM1.out HL.out HM.out HM2.out _).mono ?_; rintro e' w' ⟨rfl, n1, rfl⟩
      go_wp2_with fail
      rw [HQ.out]
      refine (tCube (h / m) (divQ (h % m) l m) D.out Q.out _).mono ?_; rintro e' w' ⟨rfl, rfl⟩
      go_wp2_with fail
      go_ret
      exact ⟨ret_int He.out, ⟨_, rfl⟩⟩
set_option maxHeartbeats 1000000 in
theorem rLong (p c m : Int) (hp : W64 p) (hc : W64 c) (hm : W64 m) (w : World) :
    Calls Try.prog 112 #[.int .u64 p, .int .u64 c, .int .u64 m] w fun e w' => e = .returned (.int .u64 (longI p c m)) ∧ Gr w w' := by
  by_cases h1 : p ≤ c
  · have He : Hid (0 = longI p c m) := by show _ = _; unfold longI; rw [if_pos (.inl h1)]
    go_enter Try.func112, Try.ntmps112
    go_wp2_with fail
    go_ret
    exact ⟨ret_int He.out, Gr.refl _⟩
  · have h2 : c < p := by omega
    clear h1
    by_cases h0 : m = 0
    · subst h0
      have He : Hid (0 = longI p c 0) := by show _ = _; unfold longI; rw [if_pos (.inr rfl)]
      go_enter Try.func112, Try.ntmps112
      go_wp2_with fail
      go_ret
      exact ⟨ret_int He.out, Gr.refl _⟩
    · have hm0 : 0 < m := by have := hm.1; omega
      have hmb : (m == 0) = false := by rw [beq_eq_false_iff_ne]; exact h0
      have hk : W64 2500000000000000000 := ⟨by omega, by omega⟩
      have hd : W64 (p - c) := by unfold W64 at *; omega
      have hh := mulHi_W (p - c) 2500000000000000000 hd hk
      have hl := mulLo_W (p - c) 2500000000000000000
      obtain ⟨h, eh⟩ : ∃ h, mulHi (p - c) 2500000000000000000 = h := ⟨_, rfl⟩
      obtain ⟨l, el⟩ : ∃ l, mulLo (p - c) 2500000000000000000 = l := ⟨_, rfl⟩
      rw [eh] at hh
      rw [el] at hl
      have He : Hid (cubeI (h / m) (divQ (h % m) l m) = longI p c m) := by show _ = _; unfold longI; rw [if_neg (by omega), eh, el]
      have hh0 : 0 ≤ h := hh.1
      obtain ⟨hm1, hm2⟩ := mod_W hh hm0
      have Q := Lib.hid (quo_W hm1 hl hm hm2)
      have D := Lib.hid (div_W hh hm0)
      have HQ : Hid (IntKind.u64.wrap (h.tdiv m) = h / m) := by show _ = _; have := D.out; unfold W64 at this; rw [Int.tdiv_eq_ediv_of_nonneg hh0, IntKind.wrap_u64]; omega
      have HM1 := Lib.hid hm1
      have HM2 := Lib.hid hm2
      have HL := Lib.hid hl
      have HM := Lib.hid hm
      have HP := Lib.hid hd
      have HK := Lib.hid hk
      have EH := Lib.hid eh
      have EL := Lib.hid el
      have hp1 : p ≤ 18446744073709551615 := hp.2
      have hc0 : 0 ≤ c := hc.1
      clear hm1 hm2 hl hm hk hd eh el h0 hh hp hc
      go_enter Try.func112, Try.ntmps112
      go_wp2_with fail
      refine (rTimesG (p - c) 2500000000000000000 HP.out HK.out _).mono ?_; rintro e' w' ⟨rfl, n1, os1, rfl⟩
      rw [EH.out, EL.out]
      go_wp2_with fail
      go_quiet ((go_at_call 133; first | exact qS' (rDivYes (h % m) l m HM1.out HL.out HM.out HM2.out _) | exact qS (rDivYes (h % m) l m HM1.out HL.out HM.out HM2.out _)))
      go_wp2_with fail
      rw [HQ.out]
      refine (rCube (h / m) (divQ (h % m) l m) D.out Q.out _).mono ?_; rintro e' w' ⟨rfl, n2, os2, rfl⟩
      go_wp2_with fail
      go_ret
      exact ⟨ret_int He.out, by repeat (first | exact Gr.refl _ | apply Gr.drewN | apply Gr.drew | apply Gr.gw | apply Gr.alloc)⟩
set_option maxHeartbeats 1000000 in
theorem tAtUp (p k t m : Int) (hp : W64 p) (hk : W64 k) (ht : W64 t) (hm : W64 m) (h : k ≤ t) (w : World) :
    Calls Try.prog 108 #[.int .u64 p, .int .u64 k, .int .u64 t, .int .u64 m] w fun e w' => e = .returned (.int .u64 (atI p k t m)) ∧ ∃ n, w.drewN n = w' := by
  have HD := Lib.hid (diffI_W t k ht hk)
  obtain ⟨d, ed⟩ : ∃ d, diffI t k = d := ⟨_, rfl⟩
  have ED := Lib.hid ed
  rw [ed] at HD
  have HX := Lib.hid (downI_W d d 1000000)
  have HY := Lib.hid (downI_W (downI d d 1000000) d 1000000)
  have HZ := Lib.hid (downI_W (downI (downI d d 1000000) d 1000000) (mulI 2 m) 5000000)
  have HM2 := Lib.hid (mulI_W 2 m ⟨by omega, by omega⟩ hm)
  have HP := Lib.hid hp
  have HK := Lib.hid hk
  have HT := Lib.hid ht
  have HM := Lib.hid hm
  have He : Hid (addI p (downI (downI (downI d d 1000000) d 1000000) (mulI 2 m) 5000000) = atI p k t m) := by show _ = _; unfold atI curveZ; rw [if_pos h, ed]
  clear hp hk ht hm ed
  go_enter Try.func108, Try.ntmps108
  go_wp2_with fail
  ((with_reducible refine (sDiff t k HT.out HK.out _).mono ?_); rintro e' w' ⟨rfl, rfl⟩)
  rw [ED.out]
  go_wp2_with fail
  ((with_reducible refine (wDown d d 1000000 HD.out HD.out (Wlit (by omega)) _).mono ?_); rintro e' w' ⟨rfl, n1, rfl⟩)
  go_wp2_with fail
  ((with_reducible refine (wDown (downI d d 1000000) d 1000000 HX.out HD.out (Wlit (by omega)) _).mono ?_); rintro e' w' ⟨rfl, n2, rfl⟩)
  go_wp2_with fail
  ((with_reducible refine (sMul 2 m (Wlit (by omega)) HM.out _).mono ?_); rintro e' w' ⟨rfl, rfl⟩)
  go_wp2_with fail
  ((with_reducible refine (wDown (downI (downI d d 1000000) d 1000000) (mulI 2 m) 5000000 HY.out HM2.out (Wlit (by omega)) _).mono ?_); rintro e' w' ⟨rfl, n3, rfl⟩)
  go_wp2_with fail
  ((with_reducible refine (sAdd p (downI (downI (downI d d 1000000) d 1000000) (mulI 2 m) 5000000) HP.out HZ.out _).mono ?_); rintro e' w' ⟨rfl, rfl⟩)
  go_wp2_with fail
  go_ret
  exact ⟨ret_int He.out, ⟨_, rfl⟩⟩
set_option maxHeartbeats 1000000 in
theorem tAtDn (p k t m : Int) (hp : W64 p) (hk : W64 k) (ht : W64 t) (hm : W64 m) (h : t < k) (w : World) :
    Calls Try.prog 108 #[.int .u64 p, .int .u64 k, .int .u64 t, .int .u64 m] w fun e w' => e = .returned (.int .u64 (atI p k t m)) ∧ ∃ n, w.drewN n = w' := by
  have HD := Lib.hid (diffI_W t k ht hk)
  obtain ⟨d, ed⟩ : ∃ d, diffI t k = d := ⟨_, rfl⟩
  have ED := Lib.hid ed
  rw [ed] at HD
  have HX := Lib.hid (downI_W d d 1000000)
  have HY := Lib.hid (downI_W (downI d d 1000000) d 1000000)
  have HZ := Lib.hid (downI_W (downI (downI d d 1000000) d 1000000) (mulI 2 m) 5000000)
  have HM2 := Lib.hid (mulI_W 2 m ⟨by omega, by omega⟩ hm)
  have HP := Lib.hid hp
  have HK := Lib.hid hk
  have HT := Lib.hid ht
  have HM := Lib.hid hm
  have He : Hid (subI p (downI (downI (downI d d 1000000) d 1000000) (mulI 2 m) 5000000) = atI p k t m) := by show _ = _; unfold atI curveZ; rw [if_neg (by omega), ed]
  clear hp hk ht hm ed
  go_enter Try.func108, Try.ntmps108
  go_wp2_with fail
  ((with_reducible refine (sDiff t k HT.out HK.out _).mono ?_); rintro e' w' ⟨rfl, rfl⟩)
  rw [ED.out]
  go_wp2_with fail
  ((with_reducible refine (wDown d d 1000000 HD.out HD.out (Wlit (by omega)) _).mono ?_); rintro e' w' ⟨rfl, n1, rfl⟩)
  go_wp2_with fail
  ((with_reducible refine (wDown (downI d d 1000000) d 1000000 HX.out HD.out (Wlit (by omega)) _).mono ?_); rintro e' w' ⟨rfl, n2, rfl⟩)
  go_wp2_with fail
  ((with_reducible refine (sMul 2 m (Wlit (by omega)) HM.out _).mono ?_); rintro e' w' ⟨rfl, rfl⟩)
  go_wp2_with fail
  ((with_reducible refine (wDown (downI (downI d d 1000000) d 1000000) (mulI 2 m) 5000000 HY.out HM2.out (Wlit (by omega)) _).mono ?_); rintro e' w' ⟨rfl, n3, rfl⟩)
  go_wp2_with fail
  ((with_reducible refine (sSub p (downI (downI (downI d d 1000000) d 1000000) (mulI 2 m) 5000000) HP.out HZ.out _).mono ?_); rintro e' w' ⟨rfl, rfl⟩)
  go_wp2_with fail
  go_ret
  exact ⟨ret_int He.out, ⟨_, rfl⟩⟩
theorem tAt (p k t m : Int) (hp : W64 p) (hk : W64 k) (ht : W64 t) (hm : W64 m) (w : World) :
    Calls Try.prog 108 #[.int .u64 p, .int .u64 k, .int .u64 t, .int .u64 m] w fun e w' => e = .returned (.int .u64 (atI p k t m)) ∧ ∃ n, w.drewN n = w' := by
  by_cases h : k ≤ t
  · exact tAtUp p k t m hp hk ht hm h w
  · exact tAtDn p k t m hp hk ht hm (by omega) w
set_option maxHeartbeats 1000000 in
theorem rAtUp (p k t m : Int) (hp : W64 p) (hk : W64 k) (ht : W64 t) (hm : W64 m) (h : k ≤ t) (w : World) :
    Calls Try.prog 113 #[.int .u64 p, .int .u64 k, .int .u64 t, .int .u64 m] w fun e w' => e = .returned (.int .u64 (atI p k t m)) ∧ Gr w w' := by
  have HD := Lib.hid (diffI_W t k ht hk)
  obtain ⟨d, ed⟩ : ∃ d, diffI t k = d := ⟨_, rfl⟩
  have ED := Lib.hid ed
  rw [ed] at HD
  have HX := Lib.hid (downI_W d d 1000000)
  have HY := Lib.hid (downI_W (downI d d 1000000) d 1000000)
  have HZ := Lib.hid (downI_W (downI (downI d d 1000000) d 1000000) (mulI 2 m) 5000000)
  have HM2 := Lib.hid (mulI_W 2 m ⟨by omega, by omega⟩ hm)
  have HP := Lib.hid hp
  have HK := Lib.hid hk
  have HT := Lib.hid ht
  have HM := Lib.hid hm
  have He : Hid (addI p (downI (downI (downI d d 1000000) d 1000000) (mulI 2 m) 5000000) = atI p k t m) := by show _ = _; unfold atI curveZ; rw [if_pos h, ed]
  clear hp hk ht hm ed
  go_enter Try.func113, Try.ntmps113
  go_wp2_with fail
  ((with_reducible refine (rDiff t k HT.out HK.out _).mono ?_); rintro e' w' ⟨rfl, rfl⟩)
  rw [ED.out]
  go_wp2_with fail
  ((with_reducible refine (rDownG d d 1000000 HD.out HD.out (Wlit (by omega)) _).mono ?_); rintro e' w' ⟨rfl, n1, os1, rfl⟩)
  go_wp2_with fail
  ((with_reducible refine (rDownG (downI d d 1000000) d 1000000 HX.out HD.out (Wlit (by omega)) _).mono ?_); rintro e' w' ⟨rfl, n2, os2, rfl⟩)
  go_wp2_with fail
  ((with_reducible refine (rMul 2 m (Wlit (by omega)) HM.out _).mono ?_); rintro e' w' ⟨rfl, rfl⟩)
  go_wp2_with fail
  ((with_reducible refine (rDownG (downI (downI d d 1000000) d 1000000) (mulI 2 m) 5000000 HY.out HM2.out (Wlit (by omega)) _).mono ?_); rintro e' w' ⟨rfl, n3, os3, rfl⟩)
  go_wp2_with fail
  ((with_reducible refine (rAdd p (downI (downI (downI d d 1000000) d 1000000) (mulI 2 m) 5000000) HP.out HZ.out _).mono ?_); rintro e' w' ⟨rfl, rfl⟩)
  go_wp2_with fail
  go_ret
  exact ⟨ret_int He.out, by repeat (first | exact Gr.refl _ | apply Gr.drewN | apply Gr.drew | apply Gr.gw | apply Gr.alloc)⟩
set_option maxHeartbeats 1000000 in
theorem rAtDn (p k t m : Int) (hp : W64 p) (hk : W64 k) (ht : W64 t) (hm : W64 m) (h : t < k) (w : World) :
    Calls Try.prog 113 #[.int .u64 p, .int .u64 k, .int .u64 t, .int .u64 m] w fun e w' => e = .returned (.int .u64 (atI p k t m)) ∧ Gr w w' := by
  have HD := Lib.hid (diffI_W t k ht hk)
  obtain ⟨d, ed⟩ : ∃ d, diffI t k = d := ⟨_, rfl⟩
  have ED := Lib.hid ed
  rw [ed] at HD
  have HX := Lib.hid (downI_W d d 1000000)
  have HY := Lib.hid (downI_W (downI d d 1000000) d 1000000)
  have HZ := Lib.hid (downI_W (downI (downI d d 1000000) d 1000000) (mulI 2 m) 5000000)
  have HM2 := Lib.hid (mulI_W 2 m ⟨by omega, by omega⟩ hm)
  have HP := Lib.hid hp
  have HK := Lib.hid hk
  have HT := Lib.hid ht
  have HM := Lib.hid hm
  have He : Hid (subI p (downI (downI (downI d d 1000000) d 1000000) (mulI 2 m) 5000000) = atI p k t m) := by show _ = _; unfold atI curveZ; rw [if_neg (by omega), ed]
  clear hp hk ht hm ed
  go_enter Try.func113, Try.ntmps113
  go_wp2_with fail
  ((with_reducible refine (rDiff t k HT.out HK.out _).mono ?_); rintro e' w' ⟨rfl, rfl⟩)
  rw [ED.out]
  go_wp2_with fail
  ((with_reducible refine (rDownG d d 1000000 HD.out HD.out (Wlit (by omega)) _).mono ?_); rintro e' w' ⟨rfl, n1, os1, rfl⟩)
  go_wp2_with fail
  ((with_reducible refine (rDownG (downI d d 1000000) d 1000000 HX.out HD.out (Wlit (by omega)) _).mono ?_); rintro e' w' ⟨rfl, n2, os2, rfl⟩)
  go_wp2_with fail
  ((with_reducible refine (rMul 2 m (Wlit (by omega)) HM.out _).mono ?_); rintro e' w' ⟨rfl, rfl⟩)
  go_wp2_with fail
  ((with_reducible refine (rDownG (downI (downI d d 1000000) d 1000000) (mulI 2 m) 5000000 HY.out HM2.out (Wlit (by omega)) _).mono ?_); rintro e' w' ⟨rfl, n3, os3, rfl⟩)
  go_wp2_with fail
  ((with_reducible refine (rSub p (downI (downI (downI d d 1000000) d 1000000) (mulI 2 m) 5000000) HP.out HZ.out _).mono ?_); rintro e' w' ⟨rfl, rfl⟩)
  go_wp2_with fail
  go_ret
  exact ⟨ret_int He.out, by repeat (first | exact Gr.refl _ | apply Gr.drewN | apply Gr.drew | apply Gr.gw | apply Gr.alloc)⟩
theorem rAt (p k t m : Int) (hp : W64 p) (hk : W64 k) (ht : W64 t) (hm : W64 m) (w : World) :
    Calls Try.prog 113 #[.int .u64 p, .int .u64 k, .int .u64 t, .int .u64 m] w fun e w' => e = .returned (.int .u64 (atI p k t m)) ∧ Gr w w' := by
  by_cases h : k ≤ t
  · exact rAtUp p k t m hp hk ht hm h w
  · exact rAtDn p k t m hp hk ht hm (by omega) w
/-- the peak behind a cut -/
def cutP (c p : Int) : Int := if c < p then downI c 17 20 else c
set_option maxHeartbeats 1000000 in
theorem tCutLo (c t a p e k f n d : Int) (hc : W64 c) (hn : W64 n) (hd : W64 d) (h : c < p) (w : World) :
    Calls Try.prog 100 #[.agg #[.int .u64 c, .int .u64 t, .int .u64 a, .int .u64 p, .int .u64 e, .int .u64 k, .int .u64 f], .int .u64 n, .int .u64 d] w fun e' w' => e' = .returned (.agg #[.int .u64 (downI c n d), .int .u64 (downI c n d), .int .u64 0, .int .u64 (downI c 17 20), .int .u64 18446744073709551615, .int .u64 0, .int .u64 0]) ∧ Gr w w' := by
  have HC := Lib.hid hc
  have HN := Lib.hid hn
  have HD := Lib.hid hd
  clear hc hn hd
  go_enter Try.func100, Try.ntmps100
  go_wp2_with fail
  ((with_reducible refine (wDown c 17 20 HC.out (Wlit (by omega)) (Wlit (by omega)) _).mono ?_); rintro e' w' ⟨rfl, n1, rfl⟩)
  go_wp2_with fail
  ((with_reducible refine (wDown c n d HC.out HN.out HD.out _).mono ?_); rintro e' w' ⟨rfl, n2, rfl⟩)
  go_wp2_with fail
  refine bodyPost_ret (v := .agg #[.int .u64 (downI c n d), .int .u64 (downI c n d), .int .u64 0, .int .u64 (downI c 17 20), .int .u64 18446744073709551615, .int .u64 0, .int .u64 0]) (by simp [results, Try.results100, go_sem]) rfl ⟨rfl, ?_⟩
  repeat (first | exact Gr.refl _ | apply Gr.drewN | apply Gr.drew | apply Gr.gw | apply Gr.alloc)
set_option maxHeartbeats 1000000 in
theorem tCutHi (c t a p e k f n d : Int) (hc : W64 c) (hn : W64 n) (hd : W64 d) (h : p ≤ c) (w : World) :
    Calls Try.prog 100 #[.agg #[.int .u64 c, .int .u64 t, .int .u64 a, .int .u64 p, .int .u64 e, .int .u64 k, .int .u64 f], .int .u64 n, .int .u64 d] w fun e' w' => e' = .returned (.agg #[.int .u64 (downI c n d), .int .u64 (downI c n d), .int .u64 0, .int .u64 (c), .int .u64 18446744073709551615, .int .u64 0, .int .u64 0]) ∧ Gr w w' := by
  have HC := Lib.hid hc
  have HN := Lib.hid hn
  have HD := Lib.hid hd
  clear hc hn hd
  go_enter Try.func100, Try.ntmps100
  go_wp2_with fail
  ((with_reducible refine (wDown c n d HC.out HN.out HD.out _).mono ?_); rintro e' w' ⟨rfl, n2, rfl⟩)
  go_wp2_with fail
  refine bodyPost_ret (v := .agg #[.int .u64 (downI c n d), .int .u64 (downI c n d), .int .u64 0, .int .u64 (c), .int .u64 18446744073709551615, .int .u64 0, .int .u64 0]) (by simp [results, Try.results100, go_sem]) rfl ⟨rfl, ?_⟩
  repeat (first | exact Gr.refl _ | apply Gr.drewN | apply Gr.drew | apply Gr.gw | apply Gr.alloc)
theorem tCut (c t a p e k f n d : Int) (hc : W64 c) (hn : W64 n) (hd : W64 d) (w : World) :
    Calls Try.prog 100 #[.agg #[.int .u64 c, .int .u64 t, .int .u64 a, .int .u64 p, .int .u64 e, .int .u64 k, .int .u64 f], .int .u64 n, .int .u64 d] w fun e' w' => e' = .returned (.agg #[.int .u64 (downI c n d), .int .u64 (downI c n d), .int .u64 0, .int .u64 (cutP c p), .int .u64 18446744073709551615, .int .u64 0, .int .u64 0]) ∧ Gr w w' := by
  unfold cutP
  by_cases h : c < p
  · rw [if_pos h]
    exact tCutLo c t a p e k f n d hc hn hd h w
  · rw [if_neg h]
    exact tCutHi c t a p e k f n d hc hn hd (by omega) w
set_option maxHeartbeats 1000000 in
theorem rCutLo (c t a p e k f n d : Int) (hc : W64 c) (hn : W64 n) (hd : W64 d) (h : c < p) (w : World) :
    Calls Try.prog 98 #[.agg #[.int .u64 c, .int .u64 t, .int .u64 a, .int .u64 p, .int .u64 e, .int .u64 k, .int .u64 f], .int .u64 n, .int .u64 d] w fun e' w' => e' = .returned (.agg #[.int .u64 (downI c n d), .int .u64 (downI c n d), .int .u64 0, .int .u64 (downI c 17 20), .int .u64 18446744073709551615, .int .u64 0, .int .u64 0]) ∧ Gr w w' := by
  have HC := Lib.hid hc
  have HN := Lib.hid hn
  have HD := Lib.hid hd
  clear hc hn hd
  go_enter Try.func98, Try.ntmps98
  go_wp2_with fail
  ((with_reducible refine (rDownG c 17 20 HC.out (Wlit (by omega)) (Wlit (by omega)) _).mono ?_); rintro e' w' ⟨rfl, n1, os1, rfl⟩)
  go_wp2_with fail
  ((with_reducible refine (rDownG c n d HC.out HN.out HD.out _).mono ?_); rintro e' w' ⟨rfl, n2, os2, rfl⟩)
  go_wp2_with fail
  refine bodyPost_ret (v := .agg #[.int .u64 (downI c n d), .int .u64 (downI c n d), .int .u64 0, .int .u64 (downI c 17 20), .int .u64 18446744073709551615, .int .u64 0, .int .u64 0]) (by simp [results, Try.results98, go_sem]) rfl ⟨rfl, ?_⟩
  repeat (first | exact Gr.refl _ | apply Gr.drewN | apply Gr.drew | apply Gr.gw | apply Gr.alloc)
set_option maxHeartbeats 1000000 in
theorem rCutHi (c t a p e k f n d : Int) (hc : W64 c) (hn : W64 n) (hd : W64 d) (h : p ≤ c) (w : World) :
    Calls Try.prog 98 #[.agg #[.int .u64 c, .int .u64 t, .int .u64 a, .int .u64 p, .int .u64 e, .int .u64 k, .int .u64 f], .int .u64 n, .int .u64 d] w fun e' w' => e' = .returned (.agg #[.int .u64 (downI c n d), .int .u64 (downI c n d), .int .u64 0, .int .u64 (c), .int .u64 18446744073709551615, .int .u64 0, .int .u64 0]) ∧ Gr w w' := by
  have HC := Lib.hid hc
  have HN := Lib.hid hn
  have HD := Lib.hid hd
  clear hc hn hd
  go_enter Try.func98, Try.ntmps98
  go_wp2_with fail
  ((with_reducible refine (rDownG c n d HC.out HN.out HD.out _).mono ?_); rintro e' w' ⟨rfl, n2, os2, rfl⟩)
  go_wp2_with fail
  refine bodyPost_ret (v := .agg #[.int .u64 (downI c n d), .int .u64 (downI c n d), .int .u64 0, .int .u64 (c), .int .u64 18446744073709551615, .int .u64 0, .int .u64 0]) (by simp [results, Try.results98, go_sem]) rfl ⟨rfl, ?_⟩
  repeat (first | exact Gr.refl _ | apply Gr.drewN | apply Gr.drew | apply Gr.gw | apply Gr.alloc)
theorem rCut (c t a p e k f n d : Int) (hc : W64 c) (hn : W64 n) (hd : W64 d) (w : World) :
    Calls Try.prog 98 #[.agg #[.int .u64 c, .int .u64 t, .int .u64 a, .int .u64 p, .int .u64 e, .int .u64 k, .int .u64 f], .int .u64 n, .int .u64 d] w fun e' w' => e' = .returned (.agg #[.int .u64 (downI c n d), .int .u64 (downI c n d), .int .u64 0, .int .u64 (cutP c p), .int .u64 18446744073709551615, .int .u64 0, .int .u64 0]) ∧ Gr w w' := by
  unfold cutP
  by_cases h : c < p
  · rw [if_pos h]
    exact rCutLo c t a p e k f n d hc hn hd h w
  · rw [if_neg h]
    exact rCutHi c t a p e k f n d hc hn hd (by omega) w
end Go.Proofs.Ytikkmdbaekdolaa
