/- math/bits.Div64: the quotient and the rest of two words by one. -/
import Derived.Test.YtikkmdbaekdolaaNum
import Derived.Test.YtikkmdbaekdolaaArith
import Derived.Deep.CutRange
import Derived.Deep.CutBlock
import Derived.Deep.DeepCutAuto
import Derived.LoopTactic
namespace Go.Proofs.Ytikkmdbaekdolaa
open Go.RowKit Go.Lib

theorem norm64 (y : Nat) (h0 : 0 < y) (hy : y < 18446744073709551616) :
    ∃ s, 64 - Lib.bitLen y = s ∧ s < 64 ∧ 9223372036854775808 ≤ y * 2 ^ s ∧ y * 2 ^ s < 18446744073709551616 := by
  obtain ⟨a, b, c⟩ := Lib.bitLenAux_bounds 64 y hy (by omega)
  have hl : Lib.bitLenAux 64 y ≤ 64 := Lib.bitLen_le y 64 (by omega) (by omega)
  refine ⟨64 - Lib.bitLenAux 64 y, rfl, by omega, ?_, ?_⟩
  · calc 9223372036854775808 = 2 ^ 63 := by decide
      _ = 2 ^ (Lib.bitLenAux 64 y - 1) * 2 ^ (64 - Lib.bitLenAux 64 y) := by rw [← Nat.pow_add]; congr 1; omega
      _ ≤ _ := Nat.mul_le_mul_right _ b
  · calc y * 2 ^ (64 - Lib.bitLenAux 64 y) < 2 ^ Lib.bitLenAux 64 y * 2 ^ (64 - Lib.bitLenAux 64 y) := Nat.mul_lt_mul_of_pos_right c (Nat.pow_pos (by omega))
      _ = 2 ^ 64 := by rw [← Nat.pow_add]; congr 1; omega
      _ = 18446744073709551616 := by decide

/-- the numbers of a digit, in the walk's words -/
structure Eqs (V1 V0 U U1 : Nat) (v1 v0 u u1 : Int) : Prop where
  v1 : v1 = V1
  v0 : v0 = V0
  u : u = U
  u1 : u1 = U1

set_option maxHeartbeats 1000000 in
set_option maxRecDepth 100000 in
theorem div64_core (A B d1 d2 : Int) (hi lo y v v1 v0 u l u1 u0 q0 r0 x q1 r1 : Int) (s V1 V0 U U1 U0 X : Nat) (hh : 0 < hi) (hy : hi < y) (hs : s < 64) (E : Eqs V1 V0 U U1 v1 v0 u u1) (E' : Eqs V1 V0 X U0 v1 v0 x u0)
    (hV : IntKind.u64.wrap (y * 2 ^ s) = v) (hV1 : v / 4294967296 = v1) (hV0 : bits .and .u64 v 4294967295 = v0)
    (hU : bits .or .u64 (IntKind.u64.wrap (hi * 2 ^ s)) (lo / 2 ^ (64 - s)) = u)
    (hL : IntKind.u64.wrap (lo * 2 ^ s) = l) (hU1 : l / 4294967296 = u1) (hU0 : bits .and .u64 l 4294967295 = u0)
    (hq0 : IntKind.u64.wrap (u.tdiv v1) = q0) (hr0 : IntKind.u64.wrap (u - IntKind.u64.wrap (q0 * v1)) = r0)
    (b0 : 0 ≤ lo ∧ 0 ≤ v ∧ 0 ≤ u ∧ 0 ≤ l ∧ 0 ≤ q0 ∧ 0 ≤ r0 ∧ 0 ≤ x)
    (bV1 : 2147483648 ≤ v1) (bV1' : v1 < 4294967296) (bV0 : 0 ≤ v0 ∧ v0 < 4294967296) (bU1 : 0 ≤ u1 ∧ u1 < 4294967296) (bU0 : 0 ≤ u0 ∧ u0 < 4294967296)
    (HU : Hid (U < V1 * 4294967296 + V0)) (HX : Hid (X < V1 * 4294967296 + V0))
    (hD : Hid (∃ q r : Nat, q0 = q ∧ r0 = r ∧ Ar.Dig U V1 V0 U1 q r)) (hD' : Hid (∃ q r : Nat, q1 = q ∧ r1 = r ∧ Ar.Dig X V1 V0 U0 q r))
    (Hd1 : Hid (d1 = ((U * 4294967296 + U1) / (V1 * 4294967296 + V0) : Nat))) (Hd2 : Hid (d2 = ((X * 4294967296 + U0) / (V1 * 4294967296 + V0) : Nat)))
    (hX : IntKind.u64.wrap (IntKind.u64.wrap (IntKind.u64.wrap (u * 4294967296) + u1) - IntKind.u64.wrap (d1 * v)) = x)
    (hq1 : IntKind.u64.wrap (x.tdiv v1) = q1) (hr1 : IntKind.u64.wrap (x - IntKind.u64.wrap (q1 * v1)) = r1)
    (hA : IntKind.u64.wrap (IntKind.u64.wrap (d1 * 4294967296) + d2) = A)
    (hB : IntKind.u64.wrap (IntKind.u64.wrap (IntKind.u64.wrap (x * 4294967296) + u0) - IntKind.u64.wrap (d2 * v)) / 2 ^ s = B)
    (C : Hid (∀ w, Calls Try.prog 152 #[.int .u64 y] w fun e w' => e = .returned (.int .i64 (s : Int)) ∧ w = w')) (w : World) :
    Calls Try.prog 148 #[.int .u64 hi, .int .u64 lo, .int .u64 y] w fun e w' => e = .returned (.tuple #[.int .u64 A, .int .u64 B]) ∧ w = w' := by
  obtain ⟨c1, c2, c3, c4, c5, c6, c7⟩ := b0
  have e1 : (hi == 0) = false := by rw [beq_eq_false_iff_ne]; omega
  have e2 : (y == 0) = false := by rw [beq_eq_false_iff_ne]; omega
  have e3 : decide (y ≤ hi) = false := by rw [decide_eq_false_iff_not]; omega
  go_enter Try.func148, Try.ntmps148
  go_upto_block 0 with (first | (go_at_call 152; refine (C.out _).mono ?_; rintro e w' ⟨rfl, rfl⟩) | fail)
  go_cut [15, 16] (fun a _ wx => a = .int .u64 d1 ∧ wx = w)
  case first =>
    go_wp2_with fail
    go_loop [15, 16] (fun a b => ∃ q r : Nat, ∃ qi ri : Int, Hid (qi = q ∧ ri = r) ∧ Ar.Dig U V1 V0 U1 q r ∧ a = .int .u64 qi ∧ b = .int .u64 ri) (fun a _ => (intOf a).toNat)
    case atStart =>
      obtain ⟨q, r, e4, e5, hd⟩ := hD.out
      exact ⟨q, r, q0, r0, ⟨e4, e5⟩, hd, rfl, rfl⟩
    case round =>
      obtain ⟨q, r, qi, ri, he, hd, rfl, rfl⟩ := hrel
      have f1 := he.out.1
      have f2 := he.out.2
      have g1 := E.v1
      have g2 := E.v0
      have g3 := E.u1
      have br := hd.rlt
      have bq := hd.le
      have bri : 0 ≤ ri ∧ ri < 4294967296 := by omega
      have bqi : 0 ≤ qi ∧ qi ≤ 4294967297 := by omega
      by_cases hb : 4294967296 ≤ qi
      · obtain ⟨h1, h2, h3, h4⟩ := Ar.dig_step (by omega) (by omega) (by omega) HU.out hd (.inl (by omega))
        have H : Hid (∃ q' r' : Nat, qi - 1 = q' ∧ ri + v1 = r' ∧ q' * V1 + r' = U ∧ (U * 4294967296 + U1) / (V1 * 4294967296 + V0) ≤ q' ∧ q' ≤ 4294967296) := ⟨q - 1, r + V1, by omega, by omega, h2, h3, h4⟩
        clear f1 f2 g1 g2 g3 br bq h1 h2 h3 h4
        by_cases hr : 4294967296 ≤ ri + v1
        · go_wp2_with fail
          go_meet
          obtain ⟨q', r', e4, e5, h2, h3, h4⟩ := H.out
          have e6 := Ar.dig_broke (v1 := V1) (v0 := V0) (u := U) (u1 := U1) (q := q') (r := r') (by have := E.v1; omega) (by have := E.v0; omega) h2 h3 h4 (by omega)
          exact ⟨by rw [e4, e6, Hd1.out], rfl⟩
        · go_wp2_with fail
          go_round
          case rel =>
            obtain ⟨q', r', e4, e5, h2, h3, h4⟩ := H.out
            exact ⟨q', r', _, _, ⟨e4, e5⟩, ⟨h2, h3, by omega, by omega⟩, rfl, rfl⟩
          case measure => simp [intOf]; omega
      · obtain ⟨m, hm⟩ : ∃ m, q * V0 = m := ⟨_, rfl⟩
        obtain ⟨mi, hmi⟩ : ∃ mi : Int, mi = m := ⟨_, rfl⟩
        have hmt : m < 18446744073709551616 := by
          have : q * V0 ≤ 4294967295 * V0 := Nat.mul_le_mul_right _ (by omega)
          omega
        have hw : IntKind.u64.wrap (qi * v0) = mi := by rw [f1, g2, Num.mulN, hm, hmi]; exact Num.wrapN _ hmt
        have bmi : 0 ≤ mi ∧ mi ≤ 18446744073709551615 := by omega
        by_cases ht : 4294967296 * ri + u1 < mi
        · obtain ⟨h1, h2, h3, h4⟩ := Ar.dig_step (by omega) (by omega) (by omega) HU.out hd (.inr (by rw [hm]; omega))
          have H : Hid (∃ q' r' : Nat, qi - 1 = q' ∧ ri + v1 = r' ∧ q' * V1 + r' = U ∧ (U * 4294967296 + U1) / (V1 * 4294967296 + V0) ≤ q' ∧ q' ≤ 4294967296) := ⟨q - 1, r + V1, by omega, by omega, h2, h3, h4⟩
          have b1 : 1 ≤ qi := by omega
          clear f1 f2 g1 g2 g3 br bq h1 h2 h3 h4 hm hmi hmt
          by_cases hr : 4294967296 ≤ ri + v1
          · go_wp2_with fail
            go_meet
            obtain ⟨q', r', e4, e5, h2, h3, h4⟩ := H.out
            have e6 := Ar.dig_broke (v1 := V1) (v0 := V0) (u := U) (u1 := U1) (q := q') (r := r') (by have := E.v1; omega) (by have := E.v0; omega) h2 h3 h4 (by omega)
            exact ⟨by rw [e4, e6, Hd1.out], rfl⟩
          · go_wp2_with fail
            go_round
            case rel =>
              obtain ⟨q', r', e4, e5, h2, h3, h4⟩ := H.out
              exact ⟨q', r', _, _, ⟨e4, e5⟩, ⟨h2, h3, by omega, by omega⟩, rfl, rfl⟩
            case measure => simp [intOf]; omega
        · have H : Hid (q * V0 ≤ 4294967296 * r + U1) := by show _ ≤ _; omega
          clear f1 f2 g1 g2 g3 br bq hm hmi hmt
          go_wp2_with fail
          go_meet
          have e6 := Ar.dig_done (v1 := V1) (v0 := V0) (u := U) (u1 := U1) (q := q) (r := r) (by have := E.v1; omega) hd H.out
          exact ⟨by rw [he.out.1, e6, Hd1.out], rfl⟩
  case rest =>
    obtain ⟨rfl, rfl⟩ := hcut
    go_upto_block 2 with fail
    go_cut [16, 18] (fun _ b wx => b = .int .u64 d2 ∧ wx = wc)
    case first =>
      go_wp2_with fail
      go_loop [16, 18] (fun b a => ∃ q r : Nat, ∃ qi ri : Int, Hid (qi = q ∧ ri = r) ∧ Ar.Dig X V1 V0 U0 q r ∧ a = .int .u64 qi ∧ b = .int .u64 ri) (fun _ a => (intOf a).toNat)
      case atStart =>
        obtain ⟨q, r, e4, e5, hd⟩ := hD'.out
        exact ⟨q, r, q1, r1, ⟨e4, e5⟩, hd, rfl, rfl⟩
      case round =>
        obtain ⟨q, r, qi, ri, he, hd, rfl, rfl⟩ := hrel
        have f1 := he.out.1
        have f2 := he.out.2
        have g1 := E'.v1
        have g2 := E'.v0
        have g3 := E'.u1
        have br := hd.rlt
        have bq := hd.le
        have bri : 0 ≤ ri ∧ ri < 4294967296 := by omega
        have bqi : 0 ≤ qi ∧ qi ≤ 4294967297 := by omega
        by_cases hb : 4294967296 ≤ qi
        · obtain ⟨h1, h2, h3, h4⟩ := Ar.dig_step (by omega) (by omega) (by omega) HX.out hd (.inl (by omega))
          have H : Hid (∃ q' r' : Nat, qi - 1 = q' ∧ ri + v1 = r' ∧ q' * V1 + r' = X ∧ (X * 4294967296 + U0) / (V1 * 4294967296 + V0) ≤ q' ∧ q' ≤ 4294967296) := ⟨q - 1, r + V1, by omega, by omega, h2, h3, h4⟩
          clear f1 f2 g1 g2 g3 br bq h1 h2 h3 h4
          by_cases hr : 4294967296 ≤ ri + v1
          · go_wp2_with fail
            go_meet
            obtain ⟨q', r', e4, e5, h2, h3, h4⟩ := H.out
            have e6 := Ar.dig_broke (v1 := V1) (v0 := V0) (u := X) (u1 := U0) (q := q') (r := r') (by have := E'.v1; omega) (by have := E'.v0; omega) h2 h3 h4 (by omega)
            exact ⟨by rw [e4, e6, Hd2.out], rfl⟩
          · go_wp2_with fail
            go_round
            case rel =>
              obtain ⟨q', r', e4, e5, h2, h3, h4⟩ := H.out
              exact ⟨q', r', _, _, ⟨e4, e5⟩, ⟨h2, h3, by omega, by omega⟩, rfl, rfl⟩
            case measure => simp [intOf]; omega
        · obtain ⟨m, hm⟩ : ∃ m, q * V0 = m := ⟨_, rfl⟩
          obtain ⟨mi, hmi⟩ : ∃ mi : Int, mi = m := ⟨_, rfl⟩
          have hmt : m < 18446744073709551616 := by
            have : q * V0 ≤ 4294967295 * V0 := Nat.mul_le_mul_right _ (by omega)
            omega
          have hw : IntKind.u64.wrap (qi * v0) = mi := by rw [f1, g2, Num.mulN, hm, hmi]; exact Num.wrapN _ hmt
          have bmi : 0 ≤ mi ∧ mi ≤ 18446744073709551615 := by omega
          by_cases ht : 4294967296 * ri + u0 < mi
          · obtain ⟨h1, h2, h3, h4⟩ := Ar.dig_step (by omega) (by omega) (by omega) HX.out hd (.inr (by rw [hm]; omega))
            have H : Hid (∃ q' r' : Nat, qi - 1 = q' ∧ ri + v1 = r' ∧ q' * V1 + r' = X ∧ (X * 4294967296 + U0) / (V1 * 4294967296 + V0) ≤ q' ∧ q' ≤ 4294967296) := ⟨q - 1, r + V1, by omega, by omega, h2, h3, h4⟩
            have b1 : 1 ≤ qi := by omega
            clear f1 f2 g1 g2 g3 br bq h1 h2 h3 h4 hm hmi hmt
            by_cases hr : 4294967296 ≤ ri + v1
            · go_wp2_with fail
              go_meet
              obtain ⟨q', r', e4, e5, h2, h3, h4⟩ := H.out
              have e6 := Ar.dig_broke (v1 := V1) (v0 := V0) (u := X) (u1 := U0) (q := q') (r := r') (by have := E'.v1; omega) (by have := E'.v0; omega) h2 h3 h4 (by omega)
              exact ⟨by rw [e4, e6, Hd2.out], rfl⟩
            · go_wp2_with fail
              go_round
              case rel =>
                obtain ⟨q', r', e4, e5, h2, h3, h4⟩ := H.out
                exact ⟨q', r', _, _, ⟨e4, e5⟩, ⟨h2, h3, by omega, by omega⟩, rfl, rfl⟩
              case measure => simp [intOf]; omega
          · have H : Hid (q * V0 ≤ 4294967296 * r + U0) := by show _ ≤ _; omega
            clear f1 f2 g1 g2 g3 br bq hm hmi hmt
            go_wp2_with fail
            go_meet
            have e6 := Ar.dig_done (v1 := V1) (v0 := V0) (u := X) (u1 := U0) (q := q) (r := r) (by have := E'.v1; omega) hd H.out
            exact ⟨by rw [he.out.1, e6, Hd2.out], rfl⟩
    case rest =>
      obtain ⟨rfl, rfl⟩ := hcut
      go_wp2
      go_ret2
      exact ⟨rfl, rfl⟩

theorem wrapSub (a b c : Int) : IntKind.u64.wrap (IntKind.u64.wrap (IntKind.u64.wrap a + b) - IntKind.u64.wrap c) = IntKind.u64.wrap (a + b - c) := by
  simp only [IntKind.wrap_u64]
  omega
theorem wrapAdd (a b : Int) : IntKind.u64.wrap (IntKind.u64.wrap a + b) = IntKind.u64.wrap (a + b) := by
  simp only [IntKind.wrap_u64]
  omega

theorem qWrap (u V1 : Nat) (hu : u < 18446744073709551616) : IntKind.u64.wrap ((u : Int).tdiv (V1 : Int)) = ((u / V1 : Nat) : Int) := by
  rw [← Int.ofNat_tdiv]
  exact Num.wrapN _ (Nat.lt_of_le_of_lt (Nat.div_le_self _ _) hu)
theorem subWrap (a b : Nat) (h : b ≤ a) (ha : a < 18446744073709551616) : IntKind.u64.wrap ((a : Int) - (b : Int)) = ((a - b : Nat) : Int) := by
  rw [← Int.ofNat_sub h]
  exact Num.wrapN _ (by omega)
theorem rWrap (u V1 : Nat) (hu : u < 18446744073709551616) : IntKind.u64.wrap ((u : Int) - IntKind.u64.wrap (((u / V1 : Nat) : Int) * (V1 : Int))) = ((u - u / V1 * V1 : Nat) : Int) := by
  have h := Nat.div_mul_le_self u V1
  rw [Num.mulN, Num.wrapN _ (by omega)]
  exact subWrap _ _ h hu
theorem xWrap (U U1 D V X : Nat) (e : D * V + X = U * 4294967296 + U1) (hX : X < 18446744073709551616) :
    IntKind.u64.wrap (IntKind.u64.wrap (IntKind.u64.wrap ((U : Int) * 4294967296) + (U1 : Int)) - IntKind.u64.wrap ((D : Int) * (V : Int))) = (X : Int) := by
  rw [wrapSub, Num.mulN]
  generalize D * V = p at *
  rw [show ((U : Int) * 4294967296 + (U1 : Int) - (p : Int)) = (X : Int) by omega]
  exact Num.wrapN _ hX
theorem aWrap (D1 D2 : Nat) (h : D1 * 4294967296 + D2 < 18446744073709551616) : IntKind.u64.wrap (IntKind.u64.wrap ((D1 : Int) * 4294967296) + (D2 : Int)) = ((D1 * 4294967296 + D2 : Nat) : Int) := by
  rw [wrapAdd, show ((D1 : Int) * 4294967296 + (D2 : Int)) = ((D1 * 4294967296 + D2 : Nat) : Int) by omega]
  exact Num.wrapN _ h
theorem orWrap (hi lo s U : Nat) (hs : s < 64) (hhs : hi * 2 ^ s < 18446744073709551616) (hlo : lo < 18446744073709551616) (hU : hi * 2 ^ s + lo / 2 ^ (64 - s) = U) :
    bits .or .u64 (IntKind.u64.wrap ((hi : Int) * 2 ^ s)) ((lo : Int) / 2 ^ (64 - s)) = (U : Int) := by
  have hdl : lo / 2 ^ (64 - s) < 18446744073709551616 := Nat.lt_of_le_of_lt (Nat.div_le_self _ _) hlo
  have b2 : lo / 2 ^ (64 - s) < 2 ^ s := by
    rw [Nat.div_lt_iff_lt_mul (Nat.pow_pos (by omega)), ← Nat.pow_add, show s + (64 - s) = 64 by omega]
    exact hlo
  have hor : hi * 2 ^ s ||| lo / 2 ^ (64 - s) = hi * 2 ^ s + lo / 2 ^ (64 - s) := by
    rw [Nat.mul_comm hi, Nat.two_pow_add_eq_or_of_lt b2]
  rw [show ((hi : Int) * 2 ^ s) = ((hi * 2 ^ s : Nat) : Int) by push_cast; rfl, Num.wrapN _ hhs, show ((lo : Int) / 2 ^ (64 - s)) = ((lo / 2 ^ (64 - s) : Nat) : Int) by push_cast; rfl,
      bits_or_u64_nat _ _ hhs hdl, hor, hU]

theorem partsOf (a b : Nat) (ha : a < 4294967296) (hb : b < 4294967296) : bits .and .u64 ((a * 4294967296 + b : Nat) : Int) 4294967295 = (b : Int) ∧ ((a * 4294967296 + b : Nat) : Int) / 4294967296 = (a : Int) := by
  refine ⟨?_, by omega⟩
  rw [Num.maskN (a * 4294967296 + b) (by omega)]
  congr 1
  omega

theorem castLt (a : Nat) (h : a < 4294967296) : (0 : Int) ≤ (a : Int) ∧ (a : Int) < 4294967296 := by omega
theorem castGe (a : Nat) (h : 2147483648 ≤ a) : (2147483648 : Int) ≤ (a : Int) := by omega

theorem div64_big (hi lo y : Nat) (hh : 0 < hi) (hy : hi < y) (hlo : lo < 18446744073709551616) (hyt : y < 18446744073709551616) (w : World) :
    Calls Try.prog 148 #[.int .u64 hi, .int .u64 lo, .int .u64 y] w fun e w' => e = .returned (.tuple #[.int .u64 (((hi * 18446744073709551616 + lo) / y : Nat) : Int), .int .u64 (((hi * 18446744073709551616 + lo) % y : Nat) : Int)]) ∧ w = w' := by
  obtain ⟨s, hs, hs64, hv, hv'⟩ := norm64 y (by omega) hyt
  obtain ⟨V1, V0, U, U1, U0, D1, X, D2, R, k⟩ := Ar.knuth hi lo y s hy hlo hs64 hv hv'
  obtain ⟨hV, bV1, bV1', bV0, hU, hL, bU1, bU0, ltU, hD1, e1, ltX, hD2, e2, ltR, hA, hR, bA⟩ := k
  have hhs : hi * 2 ^ s < 18446744073709551616 := Nat.lt_of_le_of_lt (Nat.mul_le_mul_right _ (Nat.le_of_lt hy)) hv'
  have kU := orWrap hi lo s U hs64 hhs hlo hU
  have kL : IntKind.u64.wrap ((lo : Int) * 2 ^ s) = ((U1 * 4294967296 + U0 : Nat) : Int) := by
    rw [← hL, show ((lo : Int) * 2 ^ s) = ((lo * 2 ^ s : Nat) : Int) by push_cast; rfl, Num.wrapM]
  have kV : IntKind.u64.wrap ((y : Int) * 2 ^ s) = ((V1 * 4294967296 + V0 : Nat) : Int) := by
    rw [← hV, show ((y : Int) * 2 ^ s) = ((y * 2 ^ s : Nat) : Int) by push_cast; rfl, Num.wrapN _ hv']
  have C : Hid (∀ w, Calls Try.prog 152 #[.int .u64 y] w fun e w' => e = .returned (.int .i64 (s : Int)) ∧ w = w') := by
    intro w
    rw [← hs]
    exact lz64 y hyt w
  rw [hA, hR]
  clear hA hR hL hU hV hv hv' hs hhs
  have ltU' : U < 18446744073709551616 := by omega
  have ltX' : X < 18446744073709551616 := by omega
  have ltR' : R < 18446744073709551616 := by omega
  have dU := Ar.dig_start bV1 bV1' bV0 bU1 ltU
  have dX := Ar.dig_start bV1 bV1' bV0 bU0 ltX
  have kx := xWrap U U1 D1 _ X e1 ltX'
  have kr := xWrap X U0 D2 _ R e2 ltR'
  obtain ⟨p1, p3⟩ := partsOf V1 V0 bV1' bV0
  obtain ⟨p2, p4⟩ := partsOf U1 U0 bU1 bU0
  have kr2 : IntKind.u64.wrap (IntKind.u64.wrap (IntKind.u64.wrap ((X : Int) * 4294967296) + (U0 : Int)) - IntKind.u64.wrap ((D2 : Int) * ((V1 * 4294967296 + V0 : Nat) : Int))) / 2 ^ s = ((R / 2 ^ s : Nat) : Int) := by
    rw [kr]
    push_cast
    rfl
  have c1 : (0 : Int) < (hi : Int) := by omega
  have c2 : (hi : Int) < (y : Int) := by omega
  have c3 := castGe V1 bV1
  have c4 := (castLt V1 bV1').2
  have c5 := castLt V0 bV0
  have c6 := castLt U1 bU1
  have c7 := castLt U0 bU0
  have key := div64_core ((D1 * 4294967296 + D2 : Nat) : Int) ((R / 2 ^ s : Nat) : Int) (D1 : Int) (D2 : Int) (hi : Int) (lo : Int) (y : Int) ((V1 * 4294967296 + V0 : Nat) : Int) (V1 : Int) (V0 : Int) (U : Int) ((U1 * 4294967296 + U0 : Nat) : Int) (U1 : Int) (U0 : Int) ((U / V1 : Nat) : Int) ((U - U / V1 * V1 : Nat) : Int)
    (X : Int) ((X / V1 : Nat) : Int) ((X - X / V1 * V1 : Nat) : Int)
    s V1 V0 U U1 U0 X c1 c2 hs64 ⟨rfl, rfl, rfl, rfl⟩ ⟨rfl, rfl, rfl, rfl⟩
    kV p3 p1 kU kL p4 p2 (qWrap U V1 ltU') (rWrap U V1 ltU') ⟨Int.natCast_nonneg _, Int.natCast_nonneg _, Int.natCast_nonneg _, Int.natCast_nonneg _, Int.natCast_nonneg _, Int.natCast_nonneg _, Int.natCast_nonneg _⟩
    c3 c4 c5 c6 c7 ltU ltX ⟨_, _, rfl, rfl, dU⟩ ⟨_, _, rfl, rfl, dX⟩ (congrArg Nat.cast hD1) (congrArg Nat.cast hD2) kx (qWrap X V1 ltX') (rWrap X V1 ltX') (aWrap D1 D2 bA) kr2 C w
  exact key

set_option maxHeartbeats 400000 in
theorem div64_small (lo y : Nat) (hy : 0 < y) (hlo : lo < 18446744073709551616) (hyt : y < 18446744073709551616) (w : World) :
    Calls Try.prog 148 #[.int .u64 0, .int .u64 lo, .int .u64 y] w fun e w' => e = .returned (.tuple #[.int .u64 ((lo / y : Nat) : Int), .int .u64 ((lo % y : Nat) : Int)]) ∧ ∃ n, w.drewN n = w' := by
  have e2 : ((y : Int) == 0) = false := by rw [beq_eq_false_iff_ne]; omega
  have e4 : ¬ (y : Int) = 0 := by omega
  have k1 : IntKind.u64.wrap ((lo : Int) / (y : Int)) = ((lo / y : Nat) : Int) := by
    rw [← Int.natCast_ediv]
    exact Num.wrapN _ (Nat.lt_of_le_of_lt (Nat.div_le_self _ _) hlo)
  have k2 : (lo : Int) % (y : Int) = ((lo % y : Nat) : Int) := by rw [← Int.natCast_emod]
  clear hlo hyt
  go_enter Try.func148, Try.ntmps148
  go_wp2
  go_quiet (fail)
  go_wp2
  go_ret2
  exact ⟨rfl, _, rfl⟩

theorem div64 (hi lo y : Nat) (hy : hi < y) (hlo : lo < 18446744073709551616) (hyt : y < 18446744073709551616) (w : World) :
    Calls Try.prog 148 #[.int .u64 hi, .int .u64 lo, .int .u64 y] w fun e w' => e = .returned (.tuple #[.int .u64 (((hi * 18446744073709551616 + lo) / y : Nat) : Int), .int .u64 (((hi * 18446744073709551616 + lo) % y : Nat) : Int)]) ∧ ∃ n, w.drewN n = w' := by
  by_cases hh : 0 < hi
  · exact (div64_big hi lo y hh hy hlo hyt w).mono fun _ _ ⟨h1, h2⟩ => ⟨h1, 0, h2⟩
  · obtain rfl : hi = 0 := by omega
    have e : 0 * 18446744073709551616 + lo = lo := by omega
    rw [e]
    exact div64_small lo y hy hlo hyt w

end Go.Proofs.Ytikkmdbaekdolaa
