/- package wide: what Mul, Div, Down, Up return, for all words. -/
import Derived.Test.YtikkmdbaekdolaaDiv
namespace Go.Proofs.Ytikkmdbaekdolaa
open Go.RowKit Go.Lib
set_option linter.unusedVariables false
set_option maxRecDepth 100000

/-- the plain meaning, in natural numbers -/
def nDown (a b d : Nat) : Nat := if d = 0 then 18446744073709551615 else min (a * b / d) 18446744073709551615
def nUp (a b d : Nat) : Nat := if d = 0 then 18446744073709551615 else min ((a * b + (d - 1)) / d) 18446744073709551615
/-- the same, of a walk's numbers -/
def mulHi (a b : Int) : Int := a * b / 18446744073709551616
def mulLo (a b : Int) : Int := a * b % 18446744073709551616
def divQ (hi lo d : Int) : Int := (hi * 18446744073709551616 + lo) / d
def divR (hi lo d : Int) : Int := (hi * 18446744073709551616 + lo) % d
def downI (a b d : Int) : Int := nDown a.toNat b.toNat d.toNat
def upI (a b d : Int) : Int := nUp a.toNat b.toNat d.toNat
/-- a word -/
def W64 (a : Int) : Prop := 0 ≤ a ∧ a ≤ 18446744073709551615

theorem W64.nat {a : Int} (h : W64 a) : ∃ n : Nat, a = n ∧ n < 18446744073709551616 := by
  obtain ⟨h0, h1⟩ := h
  obtain ⟨n, rfl⟩ := Int.eq_ofNat_of_zero_le h0
  exact ⟨n, rfl, by omega⟩
theorem W64.of {n : Nat} (h : n < 18446744073709551616) : W64 (n : Int) := ⟨by omega, by omega⟩

theorem ret_int {k : IntKind} {a b : Int} (h : a = b) : Ending.returned (.int k a) = .returned (.int k b) := by rw [h]
theorem ret_bool {a b : Bool} (h : a = b) : Ending.returned (.bool a) = .returned (.bool b) := by rw [h]
theorem ret_iib {k k' : IntKind} {a a' b b' : Int} {c : Bool} (h : a = a') (h' : b = b') : Ending.returned (.tuple #[.int k a, .int k' b, .bool c]) = .returned (.tuple #[.int k a', .int k' b', .bool c]) := by rw [h, h']
theorem ret_ii {k k' : IntKind} {a a' b b' : Int} (h : a = a') (h' : b = b') : Ending.returned (.tuple #[.int k a, .int k' b]) = .returned (.tuple #[.int k a', .int k' b']) := by rw [h, h']
theorem castHi (x y : Nat) : ((x * y / 18446744073709551616 : Nat) : Int) = mulHi x y := by
  unfold mulHi
  rw [Num.mulN]
  omega
theorem castLo (x y : Nat) : ((x * y % 18446744073709551616 : Nat) : Int) = mulLo x y := by
  unfold mulLo
  rw [Num.mulN]
  omega
theorem castQ (x y z : Nat) : (((x * 18446744073709551616 + y) / z : Nat) : Int) = divQ x y z := by
  unfold divQ
  rw [Int.natCast_ediv, Int.natCast_add, Int.natCast_mul]
  rfl
theorem castR (x y z : Nat) : (((x * 18446744073709551616 + y) % z : Nat) : Int) = divR x y z := by
  unfold divR
  rw [Int.natCast_emod, Int.natCast_add, Int.natCast_mul]
  rfl

theorem mulC (a b : Int) (ha : W64 a) (hb : W64 b) (w : World) :
    Calls Try.prog 130 #[.int .u64 a, .int .u64 b] w fun e w' => e = .returned (.tuple #[.int .u64 (mulHi a b), .int .u64 (mulLo a b)]) ∧ w = w' := by
  obtain ⟨x, rfl, hx⟩ := ha.nat
  obtain ⟨y, rfl, hy⟩ := hb.nat
  refine (mul64 x y hx hy w).mono fun e w' ⟨h1, h2⟩ => ⟨?_, h2⟩
  rw [h1, castHi, castLo]

theorem divC (hi lo d : Int) (hh : W64 hi) (hl : W64 lo) (hd : W64 d) (hlt : hi < d) (w : World) :
    Calls Try.prog 148 #[.int .u64 hi, .int .u64 lo, .int .u64 d] w fun e w' => e = .returned (.tuple #[.int .u64 (divQ hi lo d), .int .u64 (divR hi lo d)]) ∧ ∃ n, w.drewN n = w' := by
  obtain ⟨x, rfl, hx⟩ := hh.nat
  obtain ⟨y, rfl, hy⟩ := hl.nat
  obtain ⟨z, rfl, hz⟩ := hd.nat
  refine (div64 x y z (by omega) hy hz w).mono fun e w' ⟨h1, h2⟩ => ⟨?_, h2⟩
  rw [h1, castQ, castR]

theorem wMul (a b : Int) (ha : W64 a) (hb : W64 b) (w : World) :
    Calls Try.prog 142 #[.int .u64 a, .int .u64 b] w fun e w' => e = .returned (.tuple #[.int .u64 (mulHi a b), .int .u64 (mulLo a b)]) ∧ w = w' := by
  have Ha := Lib.hid ha
  have Hb := Lib.hid hb
  clear ha hb
  go_enter Try.func142, Try.ntmps142
  go_wp2_with (go_at_call 130; refine (mulC _ _ Ha.out Hb.out _).mono ?_; rintro e w' ⟨rfl, rfl⟩)
  go_ret2
  exact ⟨rfl, rfl⟩

theorem wDivNo (hi lo d : Int) (h : d ≤ hi) (w : World) :
    Calls Try.prog 131 #[.int .u64 hi, .int .u64 lo, .int .u64 d] w fun e w' => e = .returned (.tuple #[.int .u64 0, .int .u64 0, .bool false]) ∧ w = w' := by
  go_enter Try.func131, Try.ntmps131
  go_wp2
  go_ret3
  exact ⟨rfl, rfl⟩

theorem wDivYes (hi lo d : Int) (hh : W64 hi) (hl : W64 lo) (hd : W64 d) (hlt : hi < d) (w : World) :
    Calls Try.prog 131 #[.int .u64 hi, .int .u64 lo, .int .u64 d] w fun e w' => e = .returned (.tuple #[.int .u64 (divQ hi lo d), .int .u64 (divR hi lo d), .bool true]) ∧ ∃ n, w.drewN n = w' := by
  have Hh := Lib.hid hh
  have Hl := Lib.hid hl
  have Hd := Lib.hid hd
  clear hh hl hd
  go_enter Try.func131, Try.ntmps131
  go_wp2_with (go_at_call 148; refine (divC _ _ _ Hh.out Hl.out Hd.out hlt _).mono ?_; rintro e w' ⟨rfl, n, rfl⟩)
  go_ret3
  exact ⟨rfl, _, rfl⟩

theorem parts (a b : Int) : mulHi a b * 18446744073709551616 + mulLo a b = a * b := by
  unfold mulHi mulLo
  omega
theorem mulHi_W (a b : Int) (ha : W64 a) (hb : W64 b) : W64 (mulHi a b) := by
  obtain ⟨x, rfl, hx⟩ := ha.nat
  obtain ⟨y, rfl, hy⟩ := hb.nat
  have h1 : (x * y : Nat) < 18446744073709551616 * 18446744073709551616 := by
    have : x * y ≤ 18446744073709551615 * 18446744073709551615 := Nat.mul_le_mul (by omega) (by omega)
    omega
  have h2 : ((x : Int) * (y : Int)) = ((x * y : Nat) : Int) := by push_cast; rfl
  unfold W64 mulHi
  rw [h2]
  generalize x * y = p at *
  omega
theorem mulLo_W (a b : Int) : W64 (mulLo a b) := by
  unfold W64 mulLo
  omega

theorem down_top (a b d : Int) (ha : W64 a) (hb : W64 b) (hd : W64 d) (h : d ≤ mulHi a b) : downI a b d = 18446744073709551615 := by
  obtain ⟨x, rfl, hx⟩ := ha.nat
  obtain ⟨y, rfl, hy⟩ := hb.nat
  obtain ⟨z, rfl, hz⟩ := hd.nat
  unfold downI nDown
  simp only [Int.toNat_natCast]
  by_cases h0 : z = 0
  · rw [if_pos h0]
    rfl
  · rw [if_neg h0]
    have h2 : ((x : Int) * (y : Int)) = ((x * y : Nat) : Int) := by push_cast; rfl
    unfold mulHi at h
    rw [h2] at h
    generalize x * y = p at *
    have : 18446744073709551615 ≤ p / z := by
      rw [Nat.le_div_iff_mul_le (by omega)]
      omega
    rw [Nat.min_eq_right this]
    rfl
theorem down_quot (a b d : Int) (ha : W64 a) (hb : W64 b) (hd : W64 d) (h : mulHi a b < d) : downI a b d = divQ (mulHi a b) (mulLo a b) d := by
  unfold divQ
  rw [parts]
  obtain ⟨x, rfl, hx⟩ := ha.nat
  obtain ⟨y, rfl, hy⟩ := hb.nat
  obtain ⟨z, rfl, hz⟩ := hd.nat
  unfold downI nDown
  simp only [Int.toNat_natCast]
  have h2 : ((x : Int) * (y : Int)) = ((x * y : Nat) : Int) := by push_cast; rfl
  unfold mulHi at h
  rw [h2] at h ⊢
  generalize x * y = p at *
  rw [if_neg (by omega), Nat.min_eq_left]
  · rw [Int.natCast_ediv]
  · have : p / z < 18446744073709551616 := by
      rw [Nat.div_lt_iff_lt_mul (by omega)]
      omega
    omega
theorem downI_W (a b d : Int) : W64 (downI a b d) := by
  unfold downI nDown W64
  split
  · omega
  · have := Nat.min_le_right (a.toNat * b.toNat / d.toNat) 18446744073709551615
    generalize min (a.toNat * b.toNat / d.toNat) 18446744073709551615 = m at *
    omega
theorem upI_W (a b d : Int) : W64 (upI a b d) := by
  unfold upI nUp W64
  split
  · omega
  · have := Nat.min_le_right ((a.toNat * b.toNat + (d.toNat - 1)) / d.toNat) 18446744073709551615
    generalize min ((a.toNat * b.toNat + (d.toNat - 1)) / d.toNat) 18446744073709551615 = m at *
    omega

theorem wDown (a b d : Int) (ha : W64 a) (hb : W64 b) (hd : W64 d) (w : World) :
    Calls Try.prog 110 #[.int .u64 a, .int .u64 b, .int .u64 d] w fun e w' => e = .returned (.int .u64 (downI a b d)) ∧ ∃ n, w.drewN n = w' := by
  have Ha := Lib.hid ha
  have Hb := Lib.hid hb
  have Hd := Lib.hid hd
  have H1 := Lib.hid (mulHi_W a b ha hb)
  have H2 := Lib.hid (mulLo_W a b)
  by_cases h : d ≤ mulHi a b
  · have He := Lib.hid (down_top a b d ha hb hd h)
    clear ha hb hd
    go_enter Try.func110, Try.ntmps110
    go_wp2_with (first | (go_at_call 130; refine (mulC _ _ Ha.out Hb.out _).mono ?_; rintro e w' ⟨rfl, rfl⟩) | (go_at_call 131; refine (wDivNo _ _ _ h _).mono ?_; rintro e w' ⟨rfl, rfl⟩))
    go_ret
    exact ⟨ret_int He.out.symm, 0, rfl⟩
  · have hlt : mulHi a b < d := by omega
    have He := Lib.hid (down_quot a b d ha hb hd hlt)
    have Hlt := Lib.hid hlt
    clear ha hb hd h hlt
    go_enter Try.func110, Try.ntmps110
    go_wp2_with (first | (go_at_call 130; refine (mulC _ _ Ha.out Hb.out _).mono ?_; rintro e w' ⟨rfl, rfl⟩) | (go_at_call 131; refine (wDivYes _ _ _ H1.out H2.out Hd.out Hlt.out _).mono ?_; rintro e w' ⟨rfl, n, rfl⟩))
    go_ret
    exact ⟨ret_int He.out.symm, _, rfl⟩

theorem ceil_div (p d : Nat) (h : 0 < d) : (p + (d - 1)) / d = if p % d = 0 then p / d else p / d + 1 := by
  have e := Nat.div_add_mod p d
  have hr := Nat.mod_lt p h
  generalize hq : p / d = q at *
  generalize hm : p % d = r at *
  subst e
  split
  · rename_i h0
    subst h0
    rw [Nat.add_zero, Nat.mul_add_div h, Nat.div_eq_of_lt (by omega)]
    try rfl
  · rw [show d * q + r + (d - 1) = d * (q + 1) + (r - 1) by rw [Nat.mul_add]; omega, Nat.mul_add_div h, Nat.div_eq_of_lt (by omega)]
theorem divQR (a b d : Int) (ha : W64 a) (hb : W64 b) (hd : W64 d) (h : mulHi a b < d) :
    ∃ p z : Nat, d = z ∧ 0 < z ∧ p = a.toNat * b.toNat ∧ divQ (mulHi a b) (mulLo a b) d = (p / z : Nat) ∧ divR (mulHi a b) (mulLo a b) d = (p % z : Nat) ∧ p / z < 18446744073709551616 ∧ d.toNat = z := by
  unfold divQ divR
  rw [parts]
  obtain ⟨x, rfl, hx⟩ := ha.nat
  obtain ⟨y, rfl, hy⟩ := hb.nat
  obtain ⟨z, rfl, hz⟩ := hd.nat
  have h2 : ((x : Int) * (y : Int)) = ((x * y : Nat) : Int) := Num.mulN x y
  unfold mulHi at h
  rw [h2] at h ⊢
  refine ⟨x * y, z, rfl, by omega, rfl, (Int.natCast_ediv _ _).symm, (Int.natCast_emod _ _).symm, ?_, rfl⟩
  generalize x * y = p at *
  rw [Nat.div_lt_iff_lt_mul (by omega)]
  omega
theorem up_top (a b d : Int) (ha : W64 a) (hb : W64 b) (hd : W64 d) (h : d ≤ mulHi a b) : upI a b d = 18446744073709551615 := by
  obtain ⟨x, rfl, hx⟩ := ha.nat
  obtain ⟨y, rfl, hy⟩ := hb.nat
  obtain ⟨z, rfl, hz⟩ := hd.nat
  unfold upI nUp
  simp only [Int.toNat_natCast]
  by_cases h0 : z = 0
  · rw [if_pos h0]
    rfl
  · rw [if_neg h0]
    have h2 : ((x : Int) * (y : Int)) = ((x * y : Nat) : Int) := Num.mulN x y
    unfold mulHi at h
    rw [h2] at h
    generalize x * y = p at *
    have : 18446744073709551615 ≤ (p + (z - 1)) / z := by
      rw [Nat.le_div_iff_mul_le (by omega)]
      omega
    rw [Nat.min_eq_right this]
    rfl
theorem up_zero (a b d : Int) (ha : W64 a) (hb : W64 b) (hd : W64 d) (h : mulHi a b < d) (h0 : divR (mulHi a b) (mulLo a b) d = 0) : upI a b d = divQ (mulHi a b) (mulLo a b) d := by
  obtain ⟨p, z, _, hz, hp, h1, h2, h3, h4⟩ := divQR a b d ha hb hd h
  rw [h2] at h0
  unfold upI nUp
  rw [h1, h4, ← hp, if_neg (by omega), ceil_div p z hz, if_pos (by omega), Nat.min_eq_left (by omega)]
theorem up_more (a b d : Int) (ha : W64 a) (hb : W64 b) (hd : W64 d) (h : mulHi a b < d) (h0 : ¬ divR (mulHi a b) (mulLo a b) d = 0) (ht : ¬ divQ (mulHi a b) (mulLo a b) d = 18446744073709551615) :
    upI a b d = divQ (mulHi a b) (mulLo a b) d + 1 := by
  obtain ⟨p, z, _, hz, hp, h1, h2, h3, h4⟩ := divQR a b d ha hb hd h
  rw [h2] at h0
  rw [h1] at ht
  unfold upI nUp
  rw [h1, h4, ← hp, if_neg (by omega), ceil_div p z hz, if_neg (by omega), Nat.min_eq_left (by omega)]
  exact Int.natCast_succ _
theorem up_full (a b d : Int) (ha : W64 a) (hb : W64 b) (hd : W64 d) (h : mulHi a b < d) (h0 : ¬ divR (mulHi a b) (mulLo a b) d = 0) (ht : divQ (mulHi a b) (mulLo a b) d = 18446744073709551615) :
    upI a b d = 18446744073709551615 := by
  obtain ⟨p, z, _, hz, hp, h1, h2, h3, h4⟩ := divQR a b d ha hb hd h
  rw [h2] at h0
  rw [h1] at ht
  unfold upI nUp
  rw [h4, ← hp, if_neg (by omega), ceil_div p z hz, if_neg (by omega), Nat.min_eq_right (by omega)]
  rfl
theorem divQ_W (a b d : Int) (ha : W64 a) (hb : W64 b) (hd : W64 d) (h : mulHi a b < d) : W64 (divQ (mulHi a b) (mulLo a b) d) := by
  obtain ⟨p, z, _, hz, hp, h1, h2, h3, h4⟩ := divQR a b d ha hb hd h
  rw [h1]
  exact W64.of h3
theorem divR_0 (a b d : Int) (ha : W64 a) (hb : W64 b) (hd : W64 d) (h : mulHi a b < d) : 0 ≤ divR (mulHi a b) (mulLo a b) d ∧ divR (mulHi a b) (mulLo a b) d < d := by
  obtain ⟨p, z, hdz, hz, hp, h1, h2, h3, h4⟩ := divQR a b d ha hb hd h
  rw [h2, hdz]
  have := Nat.mod_lt p hz
  omega

theorem wUp (a b d : Int) (ha : W64 a) (hb : W64 b) (hd : W64 d) (w : World) :
    Calls Try.prog 93 #[.int .u64 a, .int .u64 b, .int .u64 d] w fun e w' => e = .returned (.int .u64 (upI a b d)) ∧ ∃ n, w.drewN n = w' := by
  have Ha := Lib.hid ha
  have Hb := Lib.hid hb
  have Hd := Lib.hid hd
  have H1 := Lib.hid (mulHi_W a b ha hb)
  have H2 := Lib.hid (mulLo_W a b)
  by_cases h : d ≤ mulHi a b
  · have He := Lib.hid (up_top a b d ha hb hd h)
    clear ha hb hd
    go_enter Try.func93, Try.ntmps93
    go_wp2_with (first | (go_at_call 130; refine (mulC _ _ Ha.out Hb.out _).mono ?_; rintro e w' ⟨rfl, rfl⟩) | (go_at_call 131; refine (wDivNo _ _ _ h _).mono ?_; rintro e w' ⟨rfl, rfl⟩))
    go_ret
    exact ⟨ret_int He.out.symm, 0, rfl⟩
  · have hlt : mulHi a b < d := by omega
    have Hlt := Lib.hid hlt
    have hq := divQ_W a b d ha hb hd hlt
    have hr := divR_0 a b d ha hb hd hlt
    unfold W64 at hq
    by_cases h0 : divR (mulHi a b) (mulLo a b) d = 0
    · have He := Lib.hid (up_zero a b d ha hb hd hlt h0)
      have e0 : decide (0 < divR (mulHi a b) (mulLo a b) d) = false := by rw [decide_eq_false_iff_not]; omega
      clear ha hb hd h hlt h0
      go_enter Try.func93, Try.ntmps93
      go_wp2_with (first | (go_at_call 130; refine (mulC _ _ Ha.out Hb.out _).mono ?_; rintro e w' ⟨rfl, rfl⟩) | (go_at_call 131; refine (wDivYes _ _ _ H1.out H2.out Hd.out Hlt.out _).mono ?_; rintro e w' ⟨rfl, n, rfl⟩))
      go_ret
      exact ⟨ret_int He.out.symm, _, rfl⟩
    · have e0 : decide (0 < divR (mulHi a b) (mulLo a b) d) = true := by rw [decide_eq_true_eq]; omega
      by_cases ht : divQ (mulHi a b) (mulLo a b) d = 18446744073709551615
      · have He := Lib.hid (up_full a b d ha hb hd hlt h0 ht)
        have e1 : (divQ (mulHi a b) (mulLo a b) d == 18446744073709551615) = true := by rw [beq_iff_eq]; exact ht
        clear ha hb hd h hlt h0 ht
        go_enter Try.func93, Try.ntmps93
        go_wp2_with (first | (go_at_call 130; refine (mulC _ _ Ha.out Hb.out _).mono ?_; rintro e w' ⟨rfl, rfl⟩) | (go_at_call 131; refine (wDivYes _ _ _ H1.out H2.out Hd.out Hlt.out _).mono ?_; rintro e w' ⟨rfl, n, rfl⟩))
        go_ret
        exact ⟨ret_int He.out.symm, _, rfl⟩
      · have He := Lib.hid (up_more a b d ha hb hd hlt h0 ht)
        have e1 : (divQ (mulHi a b) (mulLo a b) d == 18446744073709551615) = false := by rw [beq_eq_false_iff_ne]; exact ht
        have e2 : divQ (mulHi a b) (mulLo a b) d < 18446744073709551615 := by omega
        clear ha hb hd h hlt h0 ht
        go_enter Try.func93, Try.ntmps93
        go_wp2_with (first | (go_at_call 130; refine (mulC _ _ Ha.out Hb.out _).mono ?_; rintro e w' ⟨rfl, rfl⟩) | (go_at_call 131; refine (wDivYes _ _ _ H1.out H2.out Hd.out Hlt.out _).mono ?_; rintro e w' ⟨rfl, n, rfl⟩))
        go_ret
        exact ⟨ret_int He.out.symm, _, rfl⟩

end Go.Proofs.Ytikkmdbaekdolaa
