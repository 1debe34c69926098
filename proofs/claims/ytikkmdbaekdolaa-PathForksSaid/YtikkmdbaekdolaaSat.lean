/- packages sat and clock: amounts that do not wrap. -/
import Derived.Test.YtikkmdbaekdolaaRef
import Derived.Laws.Externs
namespace Go.Proofs.Ytikkmdbaekdolaa
open Go.RowKit Go.Lib
set_option linter.unusedVariables false
set_option maxRecDepth 100000

theorem Wlit {n : Int} (h : 0 ≤ n ∧ n ≤ 18446744073709551615) : W64 n := h

theorem add64Law (x y : Int) (hx : W64 x) (hy : W64 y) (w : World) :
    (callFunc 129 #[.int .u64 x, .int .u64 y, .int .u64 0]).run Try.prog w =
      .ok (.value (.tuple #[.int .u64 ((x + y) % 18446744073709551616), .int .u64 ((x + y) / 18446744073709551616)])) w := by
  rw [run_callFunc_extern Try.func129 (by kernel_rfl) (by kernel_rfl) (by kernel_rfl) (e := add64Entry) (by kernel_rfl), run_add64 x y 0 hx.1 hy.1 (by omega) (by omega)]
  simp only [Result.andThen, Int.add_zero]

theorem sAdd (a b : Int) (ha : W64 a) (hb : W64 b) (w : World) :
    Calls Try.prog 88 #[.int .u64 a, .int .u64 b] w fun e w' => e = .returned (.int .u64 (addI a b)) ∧ w = w' := by
  have L := add64Law a b ha hb
  obtain ⟨a0, a1⟩ := ha
  obtain ⟨b0, b1⟩ := hb
  by_cases h : a + b ≤ 18446744073709551615
  · have He : Hid (a + b = addI a b) := by show _ = _; unfold addI; omega
    have e1 : (a + b) % 18446744073709551616 = a + b := by omega
    have e2 : (a + b) / 18446744073709551616 = 0 := by omega
    rw [e1, e2] at L
    clear e1 e2
    go_enter Try.func88, Try.ntmps88
    go_wp2
    go_ret
    exact ⟨ret_int He.out, rfl⟩
  · have He : Hid (18446744073709551615 = addI a b) := by show _ = _; unfold addI; omega
    have e2 : (a + b) / 18446744073709551616 = 1 := by omega
    rw [e2] at L
    clear e2
    go_enter Try.func88, Try.ntmps88
    go_wp2
    go_ret
    exact ⟨ret_int He.out, rfl⟩

theorem sSub (a b : Int) (ha : W64 a) (hb : W64 b) (w : World) :
    Calls Try.prog 90 #[.int .u64 a, .int .u64 b] w fun e w' => e = .returned (.int .u64 (subI a b)) ∧ w = w' := by
  obtain ⟨a0, a1⟩ := ha
  obtain ⟨b0, b1⟩ := hb
  by_cases h : a < b
  · have He : Hid (0 = subI a b) := by show _ = _; unfold subI; omega
    go_enter Try.func90, Try.ntmps90
    go_wp2
    go_ret
    exact ⟨ret_int He.out, rfl⟩
  · have He : Hid (a - b = subI a b) := by show _ = _; unfold subI; omega
    go_enter Try.func90, Try.ntmps90
    go_wp2
    go_ret
    exact ⟨ret_int He.out, rfl⟩

theorem mulI_hi (a b : Int) (ha : W64 a) (hb : W64 b) : (¬ mulHi a b = 0 → 18446744073709551615 = mulI a b) ∧ (mulHi a b = 0 → mulLo a b = mulI a b) := by
  have e := parts a b
  have h := mulHi_W a b ha hb
  have l := mulLo_W a b
  unfold W64 at *
  unfold mulI
  constructor
  · intro h0
    omega
  · intro h0
    rw [h0] at e
    omega

theorem sMul (a b : Int) (ha : W64 a) (hb : W64 b) (w : World) :
    Calls Try.prog 89 #[.int .u64 a, .int .u64 b] w fun e w' => e = .returned (.int .u64 (mulI a b)) ∧ w = w' := by
  have hm := mulI_hi a b ha hb
  have Ha := Lib.hid ha
  have Hb := Lib.hid hb
  by_cases h : mulHi a b = 0
  · have He := Lib.hid (hm.2 h)
    have h' : (mulHi a b != 0) = false := by rw [h]; rfl
    clear ha hb hm h
    go_enter Try.func89, Try.ntmps89
    go_wp2_with (go_at_call 130; refine (mulC _ _ Ha.out Hb.out _).mono ?_; rintro e w' ⟨rfl, rfl⟩)
    go_ret
    exact ⟨ret_int He.out, rfl⟩
  · have He := Lib.hid (hm.1 h)
    have h' : (mulHi a b != 0) = true := by rw [bne_iff_ne]; exact h
    clear ha hb hm h
    go_enter Try.func89, Try.ntmps89
    go_wp2_with (go_at_call 130; refine (mulC _ _ Ha.out Hb.out _).mono ?_; rintro e w' ⟨rfl, rfl⟩)
    go_ret
    exact ⟨ret_int He.out, rfl⟩

/-- the greater one less the lesser one -/
def diffI (a b : Int) : Int := max a b - min a b
theorem diffI_W (a b : Int) (ha : W64 a) (hb : W64 b) : W64 (diffI a b) := by
  unfold W64 diffI at *
  omega
theorem sDiff (a b : Int) (ha : W64 a) (hb : W64 b) (w : World) :
    Calls Try.prog 144 #[.int .u64 a, .int .u64 b] w fun e w' => e = .returned (.int .u64 (diffI a b)) ∧ w = w' := by
  obtain ⟨a0, a1⟩ := ha
  obtain ⟨b0, b1⟩ := hb
  by_cases h : a < b
  · have He : Hid (b - a = diffI a b) := by show _ = _; unfold diffI; omega
    go_enter Try.func144, Try.ntmps144
    go_wp2
    go_ret
    exact ⟨ret_int He.out, rfl⟩
  · by_cases h2 : b < a
    · have He : Hid (a - b = diffI a b) := by show _ = _; unfold diffI; omega
      clear h
      go_enter Try.func144, Try.ntmps144
      go_wp2
      go_ret
      exact ⟨ret_int He.out, rfl⟩
    · obtain rfl : a = b := by omega
      have He : Hid (0 = diffI a a) := by show _ = _; unfold diffI; omega
      clear h h2
      go_enter Try.func144, Try.ntmps144
      go_wp2
      go_ret
      exact ⟨ret_int He.out, rfl⟩
theorem rDiff (a b : Int) (ha : W64 a) (hb : W64 b) (w : World) :
    Calls Try.prog 146 #[.int .u64 a, .int .u64 b] w fun e w' => e = .returned (.int .u64 (diffI a b)) ∧ w = w' := by
  obtain ⟨a0, a1⟩ := ha
  obtain ⟨b0, b1⟩ := hb
  by_cases h : b < a
  · have He : Hid (a - b = diffI a b) := by show _ = _; unfold diffI; omega
    go_enter Try.func146, Try.ntmps146
    go_wp2
    go_ret
    exact ⟨ret_int He.out, rfl⟩
  · have He : Hid (b - a = diffI a b) := by show _ = _; unfold diffI; omega
    go_enter Try.func146, Try.ntmps146
    go_wp2
    go_ret
    exact ⟨ret_int He.out, rfl⟩
theorem kAfter (a b : Int) (ha : W64 a) (hb : W64 b) (w : World) :
    Calls Try.prog 66 #[.int .u64 a, .int .u64 b] w fun e w' => e = .returned (.int .u64 (addI a b)) ∧ w = w' := by
  have Ha := Lib.hid ha
  have Hb := Lib.hid hb
  clear ha hb
  go_enter Try.func66, Try.ntmps66
  go_wp2_with (go_at_call 88; refine (sAdd _ _ Ha.out Hb.out _).mono ?_; rintro e w' ⟨rfl, rfl⟩)
  go_ret
  exact ⟨rfl, rfl⟩
theorem kSince (a b : Int) (ha : W64 a) (hb : W64 b) (w : World) :
    Calls Try.prog 109 #[.int .u64 a, .int .u64 b] w fun e w' => e = .returned (.int .u64 (subI a b)) ∧ w = w' := by
  have Ha := Lib.hid ha
  have Hb := Lib.hid hb
  clear ha hb
  go_enter Try.func109, Try.ntmps109
  go_wp2_with (go_at_call 90; refine (sSub _ _ Ha.out Hb.out _).mono ?_; rintro e w' ⟨rfl, rfl⟩)
  go_ret
  exact ⟨rfl, rfl⟩

end Go.Proofs.Ytikkmdbaekdolaa
