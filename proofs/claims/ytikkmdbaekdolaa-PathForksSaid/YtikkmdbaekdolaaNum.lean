/- THE WORD FUNCTIONS OF math/bits: what each call returns, for every word. -/
import Derived.Test.YtikkmdbaekdolaaRows
import Derived.WalkKit
import Derived.WalkSpells
import Derived.WalkLawsBesides
import Derived.Lib.Mul64
import Derived.Lib.ItoaNum
import Derived.Lib.Tables
import Derived.Laws.Bits64b
import Derived.Lib.Hide
import Derived.Deep.QuietTactic
import Derived.BigQuiet
import Derived.Deep.Light
namespace Go.Proofs.Ytikkmdbaekdolaa
open Go.RowKit Go.Lib

namespace Num
theorem maskN (a : Nat) (ha : a < 18446744073709551616) : bits .and .u64 (a : Int) 4294967295 = ((a % 4294967296 : Nat) : Int) := by
  have h := bits_and_u64_nat a 4294967295 ha (by omega)
  have e : a &&& 4294967295 = a % 4294967296 := Nat.and_two_pow_sub_one_eq_mod a 32
  rw [e] at h
  exact h
theorem divN (a : Nat) : (a : Int) / 4294967296 = ((a / 4294967296 : Nat) : Int) := by omega
theorem mulN (a b : Nat) : (a : Int) * (b : Int) = ((a * b : Nat) : Int) := (Int.natCast_mul a b).symm
theorem addN (a b : Nat) : (a : Int) + (b : Int) = ((a + b : Nat) : Int) := (Int.natCast_add a b).symm
theorem wrapN (a : Nat) (ha : a < 18446744073709551616) : IntKind.u64.wrap (a : Int) = (a : Int) := by rw [IntKind.wrap_u64]; omega
theorem wrapM (a : Nat) : IntKind.u64.wrap (a : Int) = ((a % 18446744073709551616 : Nat) : Int) := by rw [IntKind.wrap_u64]; omega
end Num

set_option maxHeartbeats 1000000 in
theorem mul64 (x y : Nat) (hx : x < 18446744073709551616) (hy : y < 18446744073709551616) (w : World) :
    Calls Try.prog 130 #[.int .u64 x, .int .u64 y] w fun e w' => e = .returned (.tuple #[.int .u64 ((x * y / 18446744073709551616 : Nat) : Int), .int .u64 ((x * y % 18446744073709551616 : Nat) : Int)]) ∧ w = w' := by
  obtain ⟨bd, bt, bw, hhi⟩ := Lib.mul64_hi x y hx hy
  have ba := Lib.half_mul_le (a := x / 4294967296) (b := y / 4294967296) (by omega) (by omega)
  have bb := Lib.half_mul_le (a := x / 4294967296) (b := y % 4294967296) (by omega) (by omega)
  have bc := Lib.half_mul_le (a := x % 4294967296) (b := y / 4294967296) (by omega) (by omega)
  have ba' : x / 4294967296 * (y / 4294967296) < 18446744073709551616 := by omega
  have bb' : x / 4294967296 * (y % 4294967296) < 18446744073709551616 := by omega
  have bc' : x % 4294967296 * (y / 4294967296) < 18446744073709551616 := by omega
  have bh1 : x / 4294967296 * (y / 4294967296) + (x / 4294967296 * (y % 4294967296) + x % 4294967296 * (y % 4294967296) / 4294967296) / 4294967296 < 18446744073709551616 := by omega
  have bh : x / 4294967296 * (y / 4294967296) + (x / 4294967296 * (y % 4294967296) + x % 4294967296 * (y % 4294967296) / 4294967296) / 4294967296 + ((x / 4294967296 * (y % 4294967296) + x % 4294967296 * (y % 4294967296) / 4294967296) % 4294967296 + x % 4294967296 * (y / 4294967296)) / 4294967296 < 18446744073709551616 := by omega
  go_enter Try.func130, Try.ntmps130
  go_wp2
  simp only [Num.maskN x hx, Num.maskN y hy, Num.divN, Num.mulN, Num.addN, Num.wrapN _ bd, Num.wrapN _ bb', Num.wrapN _ bt, Num.maskN _ bt, Num.wrapN _ bc', Num.wrapN _ bw, Num.wrapN _ ba', Num.wrapN _ bh1, Num.wrapN _ bh, Num.wrapM (x * y)]
  rw [hhi]
  go_ret2
  exact ⟨rfl, rfl⟩

theorem Num.tabSize : (Lib.len8tab.size : Int) = 256 := by
  have : Lib.len8tab.size = 256 := Lib.len8tab_size
  omega
theorem Num.tabGet (y : Int) (h : y.toNat < Lib.len8tab.size) : ((Lib.len8tab[y.toNat]'h).toNat : Int) = Lib.len8 y := by
  unfold Lib.len8
  rw [getElem?_pos Lib.len8tab y.toNat h]
  rfl
theorem Num.lenEnd (k : Nat) (x y : Int) (h : y.toNat < Lib.len8tab.size) (h0 : 0 ≤ y) (h1 : y ≤ 255) (hk : k ≤ 56) (hs : Lib.bitLen x.toNat = k + Lib.bitLen y.toNat) :
    wrap64 ((k : Int) + wrap64 ((Lib.len8tab[y.toNat]'h).toNat : Int)) = (Lib.bitLen x.toNat : Int) := by
  rw [Num.tabGet y h, Lib.len8_of y h0 h1, hs]
  have l := Lib.bitLen_le8' y h0 h1
  unfold wrap64
  omega
theorem Num.lenEnd0 (x : Int) (h : x.toNat < Lib.len8tab.size) (h0 : 0 ≤ x) (h1 : x ≤ 255) :
    wrap64 (wrap64 ((Lib.len8tab[x.toNat]'h).toNat : Int)) = (Lib.bitLen x.toNat : Int) := by
  rw [Num.tabGet x h, Lib.len8_of x h0 h1]
  have l := Lib.bitLen_le8' x h0 h1
  unfold wrap64
  omega

set_option maxHeartbeats 4000000 in
set_option maxRecDepth 1000000 in
theorem len64I (x : Int) (w : World) (h0 : 0 ≤ x) (h1 : x ≤ 18446744073709551615) :
    Calls Try.prog 153 #[.int .u64 x] w fun e w' => e = .returned (.int .i64 (Lib.bitLen x.toNat)) ∧ w = w' := by
  go_enter Try.func153, Try.ntmps153
  go_wp2
  all_goals first
    | (go_ret; refine ⟨congrArg Ending.returned (congrArg (Value.int IntKind.i64) ?_), rfl⟩; go_light)
    | (exfalso
       go_light
       have hs := Num.tabSize
       omega)
  all_goals first
    | exact Num.lenEnd 56 x (x / 4294967296 / 65536 / 256) _ (by omega) (by omega) (by decide) (by have s := Lib.bitLen_shift56 x.toNat (by omega) (by omega); rw [show (x / 4294967296 / 65536 / 256).toNat = x.toNat / 72057594037927936 from by omega]; exact s)
    | exact Num.lenEnd 48 x (x / 4294967296 / 65536) _ (by omega) (by omega) (by decide) (by have s := Lib.bitLen_shift48 x.toNat (by omega) (by omega); rw [show (x / 4294967296 / 65536).toNat = x.toNat / 281474976710656 from by omega]; exact s)
    | exact Num.lenEnd 40 x (x / 4294967296 / 256) _ (by omega) (by omega) (by decide) (by have s := Lib.bitLen_shift40 x.toNat (by omega) (by omega); rw [show (x / 4294967296 / 256).toNat = x.toNat / 1099511627776 from by omega]; exact s)
    | exact Num.lenEnd 32 x (x / 4294967296) _ (by omega) (by omega) (by decide) (by have s := Lib.bitLen_shift32 x.toNat (by omega) (by omega); rw [show (x / 4294967296).toNat = x.toNat / 4294967296 from by omega]; exact s)
    | exact Num.lenEnd 24 x (x / 65536 / 256) _ (by omega) (by omega) (by decide) (by have s := Lib.bitLen_shift24 x.toNat (by omega) (by omega); rw [show (x / 65536 / 256).toNat = x.toNat / 16777216 from by omega]; exact s)
    | exact Num.lenEnd 16 x (x / 65536) _ (by omega) (by omega) (by decide) (by have s := Lib.bitLen_shift16 x.toNat (by omega) (by omega); rw [show (x / 65536).toNat = x.toNat / 65536 from by omega]; exact s)
    | exact Num.lenEnd 8 x (x / 256) _ (by omega) (by omega) (by decide) (by have s := Lib.bitLen_shift8 x.toNat (by omega) (by omega); rw [show (x / 256).toNat = x.toNat / 256 from by omega]; exact s)
    | exact Num.lenEnd0 x _ (by omega) (by omega)

theorem len64 (x : Nat) (hx : x < 18446744073709551616) (w : World) :
    Calls Try.prog 153 #[.int .u64 x] w fun e w' => e = .returned (.int .i64 (Lib.bitLen x)) ∧ w = w' :=
  len64I x w (by omega) (by omega)

theorem lz64 (x : Nat) (hx : x < 18446744073709551616) (w : World) :
    Calls Try.prog 152 #[.int .u64 x] w fun e w' => e = .returned (.int .i64 ((64 - Lib.bitLen x : Nat) : Int)) ∧ w = w' := by
  have hl : Lib.bitLen x ≤ 64 := Lib.bitLen_le x 64 (by omega) (by omega)
  go_enter Try.func152, Try.ntmps152
  go_wp2_with (go_at_call 153; refine (len64 x hx _).mono ?_; rintro e w' ⟨rfl, rfl⟩)
  go_ret
  refine ⟨congrArg Ending.returned (congrArg (Value.int IntKind.i64) ?_), rfl⟩
  omega

end Go.Proofs.Ytikkmdbaekdolaa
