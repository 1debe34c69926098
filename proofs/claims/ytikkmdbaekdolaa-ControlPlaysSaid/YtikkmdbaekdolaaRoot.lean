/- packages root, and the reference's third root: bit by bit. -/
import Derived.Test.YtikkmdbaekdolaaSat
import Derived.LoopTactic
namespace Go.Proofs.Ytikkmdbaekdolaa
open Go.RowKit Go.Lib
set_option linter.unusedVariables false
set_option maxRecDepth 100000

/-- the third root of V below 2^k more than r, bit by bit -/
def cubeGo (V : Int) : Nat → Int → Int
  | 0, r => r
  | k + 1, r => cubeGo V k (if (r + 2 ^ k) * (r + 2 ^ k) * (r + 2 ^ k) ≤ V then r + 2 ^ k else r)
def cubeI (hi lo : Int) : Int := cubeGo (hi * 18446744073709551616 + lo) 43 0
/-- is the third power of r at most hi, lo? -/
def underB (r hi lo : Int) : Bool := decide (r < 8796093022208 ∧ r * r * r ≤ hi * 18446744073709551616 + lo)

theorem cube_parts (r : Int) : ∃ h l a b c d : Int, mulHi r r = h ∧ mulLo r r = l ∧ mulHi h r = a ∧ mulLo h r = b ∧ mulHi l r = c ∧ mulLo l r = d ∧ r * r * r = a * 340282366920938463463374607431768211456 + (b + c) * 18446744073709551616 + d := by
  refine ⟨_, _, _, _, _, _, rfl, rfl, rfl, rfl, rfl, rfl, ?_⟩
  have e1 := parts r r
  have e2 := parts (mulHi r r) r
  have e3 := parts (mulLo r r) r
  have e : r * r * r = mulHi r r * r * 18446744073709551616 + mulLo r r * r := by
    rw [← e1, Int.add_mul, Int.mul_right_comm]
  rw [e, ← e2, ← e3]
  generalize mulHi (mulHi r r) r = a
  generalize mulLo (mulHi r r) r = b
  generalize mulHi (mulLo r r) r = c
  generalize mulLo (mulLo r r) r = d
  omega

theorem cubeGo_spec (V : Int) (hV : 0 ≤ V) : ∀ (k : Nat) (r : Int), 0 ≤ r → r * r * r ≤ V → V < (r + 2 ^ k) * (r + 2 ^ k) * (r + 2 ^ k) →
    0 ≤ cubeGo V k r ∧ cubeGo V k r * cubeGo V k r * cubeGo V k r ≤ V ∧ V < (cubeGo V k r + 1) * (cubeGo V k r + 1) * (cubeGo V k r + 1)
  | 0, r, h0, h1, h2 => ⟨h0, h1, by simpa [cubeGo] using h2⟩
  | k + 1, r, h0, h1, h2 => by
    have hp : (0 : Int) < 2 ^ k := Int.pow_pos (by omega)
    have e : (2 : Int) ^ (k + 1) = 2 ^ k + 2 ^ k := by rw [Int.pow_succ]; omega
    unfold cubeGo
    by_cases h : (r + 2 ^ k) * (r + 2 ^ k) * (r + 2 ^ k) ≤ V
    · rw [if_pos h]
      exact cubeGo_spec V hV k _ (by omega) h (by rw [Int.add_assoc, ← e]; exact h2)
    · rw [if_neg h]
      exact cubeGo_spec V hV k _ h0 h1 (by omega)

theorem cubeI_spec (hi lo : Int) (hh : W64 hi) (hl : W64 lo) : 0 ≤ cubeI hi lo ∧ cubeI hi lo * cubeI hi lo * cubeI hi lo ≤ hi * 18446744073709551616 + lo ∧ hi * 18446744073709551616 + lo < (cubeI hi lo + 1) * (cubeI hi lo + 1) * (cubeI hi lo + 1) := by
  unfold W64 at *
  exact cubeGo_spec _ (by omega) 43 0 (by omega) (by omega) (by
    have : ((0 : Int) + 2 ^ 43) * (0 + 2 ^ 43) * (0 + 2 ^ 43) = 680564733841876926926749214863536422912 := by decide +kernel
    rw [this]
    omega)

theorem cubeGo_lt (V : Int) : ∀ (k : Nat) (r : Int), 0 ≤ r → r ≤ cubeGo V k r ∧ cubeGo V k r < r + 2 ^ k
  | 0, r, h0 => ⟨by unfold cubeGo; omega, by unfold cubeGo; simp; omega⟩
  | k + 1, r, h0 => by
    have hp : (0 : Int) < 2 ^ k := Int.pow_pos (by omega)
    have e : (2 : Int) ^ (k + 1) = 2 ^ k + 2 ^ k := by rw [Int.pow_succ]; omega
    unfold cubeGo
    split
    · have := cubeGo_lt V k (r + 2 ^ k) (by omega)
      omega
    · have := cubeGo_lt V k r h0
      omega
theorem cubeI_W (hi lo : Int) : 0 ≤ cubeI hi lo ∧ cubeI hi lo < 8796093022208 := by
  have := cubeGo_lt (hi * 18446744073709551616 + lo) 43 0 (by omega)
  have e : (0 : Int) + 2 ^ 43 = 8796093022208 := by decide +kernel
  rw [e] at this
  exact this

/-- a bit behind a number's last one -/
theorem or_bit (q : Int) (k : Nat) (hk : k ≤ 43) (hq : 0 ≤ q) (hr : q * 2 ^ (k + 1) ≤ 17592186044416) : bits .or .u64 (q * 2 ^ (k + 1)) (2 ^ k) = q * 2 ^ (k + 1) + 2 ^ k := by
  obtain ⟨Q, rfl⟩ := Int.eq_ofNat_of_zero_le hq
  have e1 : ((Q : Int) * 2 ^ (k + 1)) = ((Q * 2 ^ (k + 1) : Nat) : Int) := by rw [Int.natCast_mul, Int.natCast_pow]; rfl
  have e2 : ((2 : Int) ^ k) = ((2 ^ k : Nat) : Int) := by rw [Int.natCast_pow]; rfl
  have h1 : 2 ^ k < 2 ^ (k + 1) := Nat.pow_lt_pow_right (by omega) (by omega)
  have h2 : 2 ^ (k + 1) ≤ 2 ^ 44 := Nat.pow_le_pow_right (by omega) (by omega)
  have h3 : (2 : Nat) ^ 44 = 17592186044416 := by decide +kernel
  rw [e1] at hr
  rw [e1, e2, bits_or_u64_nat _ _ (by omega) (by omega), ← Int.natCast_add]
  congr 1
  have := Nat.two_pow_add_eq_or_of_lt h1 Q
  rw [Nat.mul_comm Q]
  exact this.symm

set_option maxHeartbeats 1000000 in
theorem tBelow (r hi lo : Int) (hr : W64 r) (hh : W64 hi) (hl : W64 lo) (w : World) :
    Calls Try.prog 150 #[.int .u64 r, .int .u64 hi, .int .u64 lo] w fun e w' => e = .returned (.bool (underB r hi lo)) ∧ w = w' := by
  obtain ⟨h, l, a, b, c, d, eh, el, ea, eb, ec, ed, ek⟩ := cube_parts r
  have Wh := mulHi_W r r hr hr
  have Wl := mulLo_W r r
  rw [eh] at Wh
  rw [el] at Wl
  have Wa := mulHi_W h r Wh hr
  have Wb := mulLo_W h r
  have Wc := mulHi_W l r Wl hr
  have Wd := mulLo_W l r
  rw [ea] at Wa
  rw [eb] at Wb
  rw [ec] at Wc
  rw [ed] at Wd
  have EH := Lib.hid eh
  have EL := Lib.hid el
  have EA := Lib.hid ea
  have EB := Lib.hid eb
  have EC := Lib.hid ec
  have ED := Lib.hid ed
  have HR := Lib.hid hr
  have HWh := Lib.hid Wh
  have HWl := Lib.hid Wl
  clear eh el ea eb ec ed Wh Wl
  obtain ⟨r0, r1⟩ := hr
  obtain ⟨h0, h1⟩ := hh
  obtain ⟨l0, l1⟩ := hl
  obtain ⟨a0, a1⟩ := Wa
  obtain ⟨b0, b1⟩ := Wb
  obtain ⟨c0, c1⟩ := Wc
  obtain ⟨d0, d1⟩ := Wd
  have HK := Lib.hid ek
  clear ek
  by_cases hb : 8796093022208 ≤ r
  · have He : Hid (false = underB r hi lo) := by show _ = _; unfold underB; rw [eq_comm, decide_eq_false_iff_not]; omega
    go_enter Try.func150, Try.ntmps150
    go_wp2_with fail
    go_ret
    exact ⟨ret_bool He.out, rfl⟩
  · by_cases ha : 0 < a
    · have He : Hid (false = underB r hi lo) := by show _ = _; unfold underB; rw [eq_comm, decide_eq_false_iff_not, HK.out]; omega
      go_enter Try.func150, Try.ntmps150
      go_wp2_with fail
      refine (wMul r r HR.out HR.out _).mono ?_; rintro e' w' ⟨rfl, rfl⟩
      rw [EH.out, EL.out]
      go_wp2_with fail
      refine (wMul h r HWh.out HR.out _).mono ?_; rintro e' w' ⟨rfl, rfl⟩
      rw [EA.out, EB.out]
      go_wp2_with fail
      refine (wMul l r HWl.out HR.out _).mono ?_; rintro e' w' ⟨rfl, rfl⟩
      rw [EC.out, ED.out]
      go_wp2_with fail
      go_ret
      exact ⟨ret_bool He.out, rfl⟩
    · obtain rfl : a = 0 := by omega
      by_cases hc : b + c ≤ 18446744073709551615
      · by_cases h2 : b + c < hi
        · have He : Hid (true = underB r hi lo) := by show _ = _; unfold underB; rw [eq_comm, decide_eq_true_eq, HK.out]; omega
          go_enter Try.func150, Try.ntmps150
          go_wp2_with fail
          refine (wMul r r HR.out HR.out _).mono ?_; rintro e' w' ⟨rfl, rfl⟩
          rw [EH.out, EL.out]
          go_wp2_with fail
          refine (wMul h r HWh.out HR.out _).mono ?_; rintro e' w' ⟨rfl, rfl⟩
          rw [EA.out, EB.out]
          go_wp2_with fail
          refine (wMul l r HWl.out HR.out _).mono ?_; rintro e' w' ⟨rfl, rfl⟩
          rw [EC.out, ED.out]
          go_wp2_with fail
          go_ret
          exact ⟨ret_bool He.out, rfl⟩
        · by_cases h3 : hi < b + c
          · have He : Hid (decide (b + c < hi) = underB r hi lo) := by show _ = _; unfold underB; rw [decide_eq_false h2, eq_comm, decide_eq_false_iff_not, HK.out]; omega
            have h4 : (b + c == hi) = false := by rw [beq_eq_false_iff_ne]; omega
            go_enter Try.func150, Try.ntmps150
            go_wp2_with fail
            refine (wMul r r HR.out HR.out _).mono ?_; rintro e' w' ⟨rfl, rfl⟩
            rw [EH.out, EL.out]
            go_wp2_with fail
            refine (wMul h r HWh.out HR.out _).mono ?_; rintro e' w' ⟨rfl, rfl⟩
            rw [EA.out, EB.out]
            go_wp2_with fail
            refine (wMul l r HWl.out HR.out _).mono ?_; rintro e' w' ⟨rfl, rfl⟩
            rw [EC.out, ED.out]
            go_wp2_with fail
            go_ret
            exact ⟨ret_bool He.out, rfl⟩
          · obtain rfl : hi = b + c := by omega
            have He : Hid (decide (d ≤ lo) = underB r (b + c) lo) := by show _ = _; unfold underB; rw [HK.out]; congr 1; rw [eq_iff_iff]; omega
            go_enter Try.func150, Try.ntmps150
            go_wp2_with fail
            refine (wMul r r HR.out HR.out _).mono ?_; rintro e' w' ⟨rfl, rfl⟩
            rw [EH.out, EL.out]
            go_wp2_with fail
            refine (wMul h r HWh.out HR.out _).mono ?_; rintro e' w' ⟨rfl, rfl⟩
            rw [EA.out, EB.out]
            go_wp2_with fail
            refine (wMul l r HWl.out HR.out _).mono ?_; rintro e' w' ⟨rfl, rfl⟩
            rw [EC.out, ED.out]
            go_wp2_with fail
            go_ret
            exact ⟨ret_bool He.out, rfl⟩
      · have He : Hid (false = underB r hi lo) := by show _ = _; unfold underB; rw [eq_comm, decide_eq_false_iff_not, HK.out]; omega
        have hw : IntKind.u64.wrap (b + c) = b + c - 18446744073709551616 := by rw [IntKind.wrap_u64]; omega
        go_enter Try.func150, Try.ntmps150
        go_wp2_with fail
        refine (wMul r r HR.out HR.out _).mono ?_; rintro e' w' ⟨rfl, rfl⟩
        rw [EH.out, EL.out]
        go_wp2_with fail
        refine (wMul h r HWh.out HR.out _).mono ?_; rintro e' w' ⟨rfl, rfl⟩
        rw [EA.out, EB.out]
        go_wp2_with fail
        refine (wMul l r HWl.out HR.out _).mono ?_; rintro e' w' ⟨rfl, rfl⟩
        rw [EC.out, ED.out]
        go_wp2_with fail
        go_ret
        exact ⟨ret_bool He.out, rfl⟩

set_option maxHeartbeats 1000000 in
theorem tCube (hi lo : Int) (hh : W64 hi) (hl : W64 lo) (w : World) :
    Calls Try.prog 143 #[.int .u64 hi, .int .u64 lo] w fun e w' => e = .returned (.int .u64 (cubeI hi lo)) ∧ w = w' := by
  have HH := Lib.hid hh
  have HL := Lib.hid hl
  have hV : 0 ≤ hi * 18446744073709551616 + lo := by unfold W64 at *; omega
  have HV := Lib.hid hV
  have hV2 := trivial
  have HS := Lib.hid hV2
  clear hh hl hV hV2
  go_enter Try.func143, Try.ntmps143
  go_wp2_with fail
  go_loop [5, 6] (fun r i => ∃ (k : Nat) (q : Int), i = .int .i64 ((k : Int) - 1) ∧ k ≤ 43 ∧ r = .int .u64 (q * 2 ^ k) ∧ 0 ≤ q ∧ q * 2 ^ k + 2 ^ k ≤ 8796093022208 ∧ Hid (cubeGo (hi * 18446744073709551616 + lo) k (q * 2 ^ k) = cubeI hi lo)) (fun _ i => (intOf i + 1).toNat)
  case atStart => exact ⟨43, 0, rfl, by omega, by rw [Int.zero_mul], by omega, by decide +kernel, by show _ = _; rw [Int.zero_mul]; rfl⟩
  case round =>
    obtain ⟨k, q, rfl, hk, rfl, hq, hr, hc⟩ := hrel

    rcases Nat.eq_zero_or_pos k with rfl | hk0
    · go_wp2_with fail
      go_ret
      exact ⟨ret_int (by have := hc.out; simpa [cubeGo] using this), rfl⟩
    · obtain ⟨j, rfl⟩ : ∃ j, k = j + 1 := ⟨k - 1, by omega⟩
      have p0 : (0 : Int) < 2 ^ j := Int.pow_pos (by omega)
      have e1 : q * 2 ^ (j + 1) = (2 * q) * 2 ^ j := by rw [Int.pow_succ, Int.mul_comm (2 ^ j) 2, ← Int.mul_assoc, Int.mul_comm q 2]
      have e2 : q * 2 ^ (j + 1) + 2 ^ j = (2 * q + 1) * 2 ^ j := by rw [e1, Int.add_mul, Int.one_mul]
      have e3 : (2 : Int) ^ (j + 1) = 2 * 2 ^ j := by rw [Int.pow_succ, Int.mul_comm]
      have q0 : 0 ≤ q * 2 ^ (j + 1) := Int.mul_nonneg hq (by omega)
      have hwr : IntKind.u64.wrap ((2 : Int) ^ j) = 2 ^ j := by rw [IntKind.wrap_u64]; omega
      have hb1 : (2 * q + 1) * 2 ^ j + 2 ^ j ≤ 8796093022208 := by omega
      have hb2 : (2 * q) * 2 ^ j + 2 ^ j ≤ 8796093022208 := by omega
      have hT : W64 ((2 * q + 1) * 2 ^ j) := Wlit (by omega)
      have hor : bits .or .u64 (q * 2 ^ (j + 1)) (IntKind.u64.wrap (2 ^ j)) = (2 * q + 1) * 2 ^ j := by rw [hwr, or_bit q j (by omega) hq (by omega), e2]
      have hgo := hc.out
      unfold cubeGo at hgo
      rw [e2, e1] at hgo
      have E1 := Lib.hid e1
      have HT := Lib.hid hT
      have HO := Lib.hid hor
      have HB1 := Lib.hid hb1
      have HB2 := Lib.hid hb2
      clear e1 e2 e3 q0 hor hwr hb1 hb2 hT hc hr p0
      by_cases hu : ((2 * q + 1) * 2 ^ j) * ((2 * q + 1) * 2 ^ j) * ((2 * q + 1) * 2 ^ j) ≤ hi * 18446744073709551616 + lo
      · rw [if_pos hu] at hgo
        have HGo := Lib.hid hgo
        have HU : Hid (underB ((2 * q + 1) * 2 ^ j) hi lo = true) := by show _ = _; unfold underB; rw [decide_eq_true_eq]; exact ⟨by have := HB1.out; have : (0 : Int) < 2 ^ j := Int.pow_pos (by omega); omega, hu⟩
        clear hu hgo
        go_wp2_with fail
        rw [HO.out]
        refine (tBelow ((2 * q + 1) * 2 ^ j) hi lo HT.out HH.out HL.out _).mono ?_; rintro e' w' ⟨rfl, rfl⟩
        rw [HU.out]
        go_wp2_with fail
        go_round
        case rel => exact ⟨j, 2 * q + 1, by congr 1, by omega, rfl, by omega, HB1.out, HGo⟩
        case measure => simp only [intOf]; omega
      · rw [if_neg hu] at hgo
        have HGo := Lib.hid hgo
        have HU : Hid (underB ((2 * q + 1) * 2 ^ j) hi lo = false) := by show _ = _; unfold underB; rw [decide_eq_false_iff_not]; exact fun h => hu h.2
        clear hu hgo
        go_wp2_with fail
        rw [HO.out]
        refine (tBelow ((2 * q + 1) * 2 ^ j) hi lo HT.out HH.out HL.out _).mono ?_; rintro e' w' ⟨rfl, rfl⟩
        rw [HU.out]
        go_wp2_with fail
        go_round
        case rel => exact ⟨j, 2 * q, by congr 1, by omega, by rw [E1.out], by omega, HB2.out, HGo⟩
        case measure => simp only [intOf]; omega

theorem under_lt (T V : Int) (h : T * T * T ≤ V) (hV : V < 340282366920938463463374607431768211456) : T < 8796093022208 := by
  rcases Int.lt_or_le T 8796093022208 with h1 | h1
  · exact h1
  · have h2 : (8796093022208 : Int) * 8796093022208 ≤ T * T := Int.mul_le_mul h1 h1 (by omega) (by omega)
    have h3 : (8796093022208 : Int) * 8796093022208 * 8796093022208 ≤ T * T * T := Int.mul_le_mul h2 h1 (by omega) (Int.mul_nonneg (by omega) (by omega))
    have : (8796093022208 : Int) * 8796093022208 * 8796093022208 = 680564733841876926926749214863536422912 := by decide +kernel
    omega
theorem cubeGo_succ (V : Int) (k : Nat) (r : Int) : cubeGo V (k + 1) r = cubeGo V k (if (r + 2 ^ k) * (r + 2 ^ k) * (r + 2 ^ k) ≤ V then r + 2 ^ k else r) := by rw [cubeGo]
theorem cube44 (V : Int) (hV : V < 340282366920938463463374607431768211456) : cubeGo V 44 0 = cubeGo V 43 0 := by
  rw [cubeGo_succ V 43 0, if_neg]
  have : ((0 : Int) + 2 ^ 43) * (0 + 2 ^ 43) * (0 + 2 ^ 43) = 680564733841876926926749214863536422912 := by decide +kernel
  rw [this]
  omega

set_option maxHeartbeats 2000000 in
theorem rUnder (r hi lo : Int) (hr : W64 r) (hh : W64 hi) (hl : W64 lo) (w : World) :
    Calls Try.prog 151 #[.int .u64 r, .int .u64 hi, .int .u64 lo] w fun e w' => e = .returned (.bool (underB r hi lo)) ∧ Gr w w' := by
  obtain ⟨h, l, a, b, c, d, eh, el, ea, eb, ec, ed, ek⟩ := cube_parts r
  have Wh := mulHi_W r r hr hr
  have Wl := mulLo_W r r
  rw [eh] at Wh
  rw [el] at Wl
  have Wa := mulHi_W h r Wh hr
  have Wb := mulLo_W h r
  have Wc := mulHi_W l r Wl hr
  have Wd := mulLo_W l r
  rw [ea] at Wa
  rw [eb] at Wb
  rw [ec] at Wc
  rw [ed] at Wd
  have EH := Lib.hid eh
  have EL := Lib.hid el
  have EA := Lib.hid ea
  have EB := Lib.hid eb
  have EC := Lib.hid ec
  have ED := Lib.hid ed
  have HR := Lib.hid hr
  have HWh := Lib.hid Wh
  have HWl := Lib.hid Wl
  clear eh el ea eb ec ed Wh Wl
  obtain ⟨r0, r1⟩ := hr
  obtain ⟨h0, h1⟩ := hh
  obtain ⟨l0, l1⟩ := hl
  obtain ⟨a0, a1⟩ := Wa
  obtain ⟨b0, b1⟩ := Wb
  obtain ⟨c0, c1⟩ := Wc
  obtain ⟨d0, d1⟩ := Wd
  have HK := Lib.hid ek
  clear ek
  by_cases hb : 8796093022208 ≤ r
  · have He : Hid (false = underB r hi lo) := by show _ = _; unfold underB; rw [eq_comm, decide_eq_false_iff_not]; omega
    go_enter Try.func151, Try.ntmps151
    go_wp2_with fail
    go_ret
    exact ⟨ret_bool He.out, by repeat (first | exact Gr.refl _ | apply Gr.drewN | apply Gr.drew | apply Gr.gw | apply Gr.alloc)⟩
  · by_cases ha : 0 < a
    · have He : Hid (false = underB r hi lo) := by show _ = _; unfold underB; rw [eq_comm, decide_eq_false_iff_not, HK.out]; omega
      go_enter Try.func151, Try.ntmps151
      go_wp2_with fail
      refine (rTimesG r r HR.out HR.out _).mono ?_; rintro e' w' ⟨rfl, nr, osr, rfl⟩
      rw [EH.out, EL.out]
      go_wp2_with fail
      refine (rTimesG h r HWh.out HR.out _).mono ?_; rintro e' w' ⟨rfl, nh, osh, rfl⟩
      rw [EA.out, EB.out]
      go_wp2_with fail
      refine (rTimesG l r HWl.out HR.out _).mono ?_; rintro e' w' ⟨rfl, nl, osl, rfl⟩
      rw [EC.out, ED.out]
      go_wp2_with fail
      go_ret
      exact ⟨ret_bool He.out, by repeat (first | exact Gr.refl _ | apply Gr.drewN | apply Gr.drew | apply Gr.gw | apply Gr.alloc)⟩
    · obtain rfl : a = 0 := by omega
      by_cases hc : b + c ≤ 18446744073709551615
      · by_cases h2 : b + c < hi
        · have He : Hid (true = underB r hi lo) := by show _ = _; unfold underB; rw [eq_comm, decide_eq_true_eq, HK.out]; omega
          go_enter Try.func151, Try.ntmps151
          go_wp2_with fail
          refine (rTimesG r r HR.out HR.out _).mono ?_; rintro e' w' ⟨rfl, nr, osr, rfl⟩
          rw [EH.out, EL.out]
          go_wp2_with fail
          refine (rTimesG h r HWh.out HR.out _).mono ?_; rintro e' w' ⟨rfl, nh, osh, rfl⟩
          rw [EA.out, EB.out]
          go_wp2_with fail
          refine (rTimesG l r HWl.out HR.out _).mono ?_; rintro e' w' ⟨rfl, nl, osl, rfl⟩
          rw [EC.out, ED.out]
          go_wp2_with fail
          go_ret
          exact ⟨ret_bool He.out, by repeat (first | exact Gr.refl _ | apply Gr.drewN | apply Gr.drew | apply Gr.gw | apply Gr.alloc)⟩
        · by_cases h3 : hi < b + c
          · have He : Hid (decide (b + c < hi) = underB r hi lo) := by show _ = _; unfold underB; rw [decide_eq_false h2, eq_comm, decide_eq_false_iff_not, HK.out]; omega
            have h4 : (b + c == hi) = false := by rw [beq_eq_false_iff_ne]; omega
            go_enter Try.func151, Try.ntmps151
            go_wp2_with fail
            refine (rTimesG r r HR.out HR.out _).mono ?_; rintro e' w' ⟨rfl, nr, osr, rfl⟩
            rw [EH.out, EL.out]
            go_wp2_with fail
            refine (rTimesG h r HWh.out HR.out _).mono ?_; rintro e' w' ⟨rfl, nh, osh, rfl⟩
            rw [EA.out, EB.out]
            go_wp2_with fail
            refine (rTimesG l r HWl.out HR.out _).mono ?_; rintro e' w' ⟨rfl, nl, osl, rfl⟩
            rw [EC.out, ED.out]
            go_wp2_with fail
            go_ret
            exact ⟨ret_bool He.out, by repeat (first | exact Gr.refl _ | apply Gr.drewN | apply Gr.drew | apply Gr.gw | apply Gr.alloc)⟩
          · obtain rfl : hi = b + c := by omega
            have He : Hid (decide (d ≤ lo) = underB r (b + c) lo) := by show _ = _; unfold underB; rw [HK.out]; congr 1; rw [eq_iff_iff]; omega
            go_enter Try.func151, Try.ntmps151
            go_wp2_with fail
            refine (rTimesG r r HR.out HR.out _).mono ?_; rintro e' w' ⟨rfl, nr, osr, rfl⟩
            rw [EH.out, EL.out]
            go_wp2_with fail
            refine (rTimesG h r HWh.out HR.out _).mono ?_; rintro e' w' ⟨rfl, nh, osh, rfl⟩
            rw [EA.out, EB.out]
            go_wp2_with fail
            refine (rTimesG l r HWl.out HR.out _).mono ?_; rintro e' w' ⟨rfl, nl, osl, rfl⟩
            rw [EC.out, ED.out]
            go_wp2_with fail
            go_ret
            exact ⟨ret_bool He.out, by repeat (first | exact Gr.refl _ | apply Gr.drewN | apply Gr.drew | apply Gr.gw | apply Gr.alloc)⟩
      · have He : Hid (false = underB r hi lo) := by show _ = _; unfold underB; rw [eq_comm, decide_eq_false_iff_not, HK.out]; omega
        have hw : IntKind.u64.wrap (b + c) = b + c - 18446744073709551616 := by rw [IntKind.wrap_u64]; omega
        go_enter Try.func151, Try.ntmps151
        go_wp2_with fail
        refine (rTimesG r r HR.out HR.out _).mono ?_; rintro e' w' ⟨rfl, nr, osr, rfl⟩
        rw [EH.out, EL.out]
        go_wp2_with fail
        refine (rTimesG h r HWh.out HR.out _).mono ?_; rintro e' w' ⟨rfl, nh, osh, rfl⟩
        rw [EA.out, EB.out]
        go_wp2_with fail
        refine (rTimesG l r HWl.out HR.out _).mono ?_; rintro e' w' ⟨rfl, nl, osl, rfl⟩
        rw [EC.out, ED.out]
        go_wp2_with fail
        go_ret
        exact ⟨ret_bool He.out, by repeat (first | exact Gr.refl _ | apply Gr.drewN | apply Gr.drew | apply Gr.gw | apply Gr.alloc)⟩
set_option maxHeartbeats 1000000 in
theorem rCube (hi lo : Int) (hh : W64 hi) (hl : W64 lo) (w : World) :
    Calls Try.prog 145 #[.int .u64 hi, .int .u64 lo] w fun e w' => e = .returned (.int .u64 (cubeI hi lo)) ∧ Gr w w' := by
  have HH := Lib.hid hh
  have HL := Lib.hid hl
  have hV : 0 ≤ hi * 18446744073709551616 + lo := by unfold W64 at *; omega
  have HV := Lib.hid hV
  have hV2 : hi * 18446744073709551616 + lo < 340282366920938463463374607431768211456 := by unfold W64 at *; omega
  have HS := Lib.hid hV2
  clear hh hl hV hV2
  go_enter Try.func145, Try.ntmps145
  go_wp2_with fail
  go_loopw [5, 6] (fun r i wr => ∃ (k : Nat) (q : Int), i = .int .i64 ((k : Int) - 1) ∧ k ≤ 44 ∧ r = .int .u64 (q * 2 ^ k) ∧ 0 ≤ q ∧ q * 2 ^ k + 2 ^ k ≤ 17592186044416 ∧ Hid (cubeGo (hi * 18446744073709551616 + lo) k (q * 2 ^ k) = cubeI hi lo) ∧ Gr w wr) (fun _ i _ => (intOf i + 1).toNat)
  case atStart => exact ⟨44, 0, rfl, by omega, by rw [Int.zero_mul], by omega, by decide +kernel, by show _ = _; rw [Int.zero_mul]; exact cube44 _ HS.out, Gr.refl _⟩
  case round =>
    obtain ⟨k, q, rfl, hk, rfl, hq, hr, hc, hgr⟩ := hrel
    have HG := Lib.hid hgr
    clear hgr
    rcases Nat.eq_zero_or_pos k with rfl | hk0
    · go_wp2_with fail
      go_ret
      exact ⟨ret_int (by have := hc.out; simpa [cubeGo] using this), HG.out⟩
    · obtain ⟨j, rfl⟩ : ∃ j, k = j + 1 := ⟨k - 1, by omega⟩
      have p0 : (0 : Int) < 2 ^ j := Int.pow_pos (by omega)
      have e1 : q * 2 ^ (j + 1) = (2 * q) * 2 ^ j := by rw [Int.pow_succ, Int.mul_comm (2 ^ j) 2, ← Int.mul_assoc, Int.mul_comm q 2]
      have e2 : q * 2 ^ (j + 1) + 2 ^ j = (2 * q + 1) * 2 ^ j := by rw [e1, Int.add_mul, Int.one_mul]
      have e3 : (2 : Int) ^ (j + 1) = 2 * 2 ^ j := by rw [Int.pow_succ, Int.mul_comm]
      have q0 : 0 ≤ q * 2 ^ (j + 1) := Int.mul_nonneg hq (by omega)
      have hwr : IntKind.u64.wrap ((2 : Int) ^ j) = 2 ^ j := by rw [IntKind.wrap_u64]; omega
      have hb1 : (2 * q + 1) * 2 ^ j + 2 ^ j ≤ 17592186044416 := by omega
      have hb2 : (2 * q) * 2 ^ j + 2 ^ j ≤ 17592186044416 := by omega
      have hT : W64 ((2 * q + 1) * 2 ^ j) := Wlit (by omega)
      have hor : bits .or .u64 (q * 2 ^ (j + 1)) (IntKind.u64.wrap (2 ^ j)) = (2 * q + 1) * 2 ^ j := by rw [hwr, or_bit q j (by omega) hq (by omega), e2]
      have hgo := hc.out
      unfold cubeGo at hgo
      rw [e2, e1] at hgo
      have E1 := Lib.hid e1
      have HT := Lib.hid hT
      have HO := Lib.hid hor
      have HB1 := Lib.hid hb1
      have HB2 := Lib.hid hb2
      clear e1 e2 e3 q0 hor hwr hb1 hb2 hT hc hr p0
      by_cases hu : ((2 * q + 1) * 2 ^ j) * ((2 * q + 1) * 2 ^ j) * ((2 * q + 1) * 2 ^ j) ≤ hi * 18446744073709551616 + lo
      · rw [if_pos hu] at hgo
        have HGo := Lib.hid hgo
        have HU : Hid (underB ((2 * q + 1) * 2 ^ j) hi lo = true) := by show _ = _; unfold underB; rw [decide_eq_true_eq]; exact ⟨under_lt _ _ hu HS.out, hu⟩
        clear hu hgo
        go_wp2_with fail
        rw [HO.out]
        refine (rUnder ((2 * q + 1) * 2 ^ j) hi lo HT.out HH.out HL.out _).mono ?_; rintro e' w' ⟨rfl, n1, os1, rfl⟩
        rw [HU.out]
        go_wp2_with fail
        go_roundw
        case rel => exact ⟨j, 2 * q + 1, by congr 1, by omega, rfl, by omega, HB1.out, HGo, (HG.out.gw _).drewN _⟩
        case measure => simp only [intOf]; omega
      · rw [if_neg hu] at hgo
        have HGo := Lib.hid hgo
        have HU : Hid (underB ((2 * q + 1) * 2 ^ j) hi lo = false) := by show _ = _; unfold underB; rw [decide_eq_false_iff_not]; exact fun h => hu h.2
        clear hu hgo
        go_wp2_with fail
        rw [HO.out]
        refine (rUnder ((2 * q + 1) * 2 ^ j) hi lo HT.out HH.out HL.out _).mono ?_; rintro e' w' ⟨rfl, n1, os1, rfl⟩
        rw [HU.out]
        go_wp2_with fail
        go_roundw
        case rel => exact ⟨j, 2 * q, by congr 1, by omega, by rw [E1.out], by omega, HB2.out, HGo, (HG.out.gw _).drewN _⟩
        case measure => simp only [intOf]; omega
end Go.Proofs.Ytikkmdbaekdolaa
