/- Take: n bytes of a reader. -/
import Derived.Test.YtikkmdbaekdolaaNumAny
namespace Go.Proofs.Ytikkmdbaekdolaa
open Go.RowKit Go.Lib
set_option linter.unusedVariables false
set_option maxRecDepth 100000

theorem oTakeBad (p : Nat) (n : Int) (hn : n < 0) (w : World) :
    Calls Try.prog 122 #[.pointer (some ⟨p, 0, none⟩), .int .i64 n] w fun e w' => e = .returned (.tuple #[.slice none 0 0, .int .i64 1]) ∧ w = w' := by
  go_enter Try.func122, Try.ntmps122
  go_wp2_with fail
  exact bodyPost_ret (v := .tuple #[.slice none 0 0, .int .i64 1]) (by simp [results, Try.results122, go_sem]) rfl ⟨rfl, rfl⟩

theorem oTakeShort (p len c : Nat) (x : Option Addr) (n : Int) (hn : (len : Int) < n) (w : World) (h : w.cell? ⟨p, 0, none⟩ = some (.slice x len c)) :
    Calls Try.prog 122 #[.pointer (some ⟨p, 0, none⟩), .int .i64 n] w fun e w' => e = .returned (.tuple #[.slice none 0 0, .int .i64 2]) ∧ w = w' := by
  have h0 : 0 ≤ n := by omega
  go_enter Try.func122, Try.ntmps122
  go_wp2_with fail
  exact bodyPost_ret (v := .tuple #[.slice none 0 0, .int .i64 2]) (by simp [results, Try.results122, go_sem]) rfl ⟨rfl, rfl⟩

theorem BytesAt.take' {w : World} {b off : Nat} {xs : List Int} (h : BytesAt w b off xs) (n : Nat) : BytesAt w b off (xs.take n) :=
  ⟨h.1, fun i hi => by
    rw [List.length_take] at hi
    rw [h.2 i (by omega), List.getD_eq_getElem?_getD, List.getD_eq_getElem?_getD, List.getElem?_take, if_pos (by omega)]⟩

set_option maxHeartbeats 1000000 in
theorem oTake (p g o len c m : Nat) (zs T : List Int) (hT : zs.take m = T) (w : World) (h : w.cell? ⟨p, 0, none⟩ = some (.slice (some ⟨g, o, none⟩) len c)) (hf : w.frozen? ⟨p, 0, none⟩ = false) (hp : p < w.heap.size)
    (B : BytesAt w g o zs) (hl : zs.length = len) (hm : m ≤ len) (hc : len ≤ c ∧ c ≤ 9223372036854775807) (hr : len ≤ 140737488351232) :
    Calls Try.prog 122 #[.pointer (some ⟨p, 0, none⟩), .int .i64 (m : Int)] w fun e w' => ∃ w1 v, Below w.heap.size w w1 ∧ w1.ownsRow w.heap.size 5 1 v m (T.map (.int .u8)) ∧ e = .returned (.tuple #[v, .int .i64 0]) ∧ Moved p g o len c m w1 w' := by
  obtain ⟨i, hi, hz, hs, hb⟩ := info_parts (P := Try.prog) (e := 5) (z := .int .u8 0) (size := 1) (bytes := 1) (by kernel_rfl)
  have k0 : (0 : Int) ≤ (m : Int) := by omega
  have k1 : (m : Int) ≤ (len : Int) := by omega
  have k2 : (len : Int) ≤ (c : Int) := by omega
  have k3 : (c : Int) ≤ 9223372036854775807 := by omega
  have BT := BytesAt.take' B m
  have lt : (zs.take m).length = m := by rw [List.length_take]; omega
  rw [hT] at BT lt
  clear hT
  by_cases hck : c = m
  · subst hck
    obtain rfl : len = c := by omega
    go_enter Try.func122, Try.ntmps122
    go_wp2_with (at_builtin; refine wpList_append_own _ rfl _ _ 44 rfl w.heap.size 5 i (.int .u8 0) 1 1 Try.underlying44 hi hz hs hb rfl (by decide) (.slice none 0 0) 0 [] rfl (World.ownsRow_nil _ _ _ _) ⟨g, o, none⟩ len len (T.map (.int .u8)) rfl (by rw [List.length_map, lt, Nat.mul_one]) BT.news (oneCell_bytes _) (by simp [maxLen]; omega) (by omega) (Nat.le_refl _) ?_; intro v' w1 hown hgrow hnil; have hq := hgrow.cell h (by simp [Value.ownBlock]); have bl : Below w.heap.size w w1 := below_grown (Below.refl _ _) hgrow (Nat.le_refl _); have hfq : w1.frozen? ⟨p, 0, none⟩ = false := by rw [bl.frozen hp]; exact hf)
    simp only [Nat.zero_add, List.nil_append] at hown
    exact bodyPost_ret (v := .tuple #[v', .int .i64 0]) (by simp [results, Try.results122, go_sem]) rfl ⟨w1, bl, v', hown, rfl, some ⟨g, o, none⟩, .inl rfl, by simp⟩
  · go_enter Try.func122, Try.ntmps122
    go_wp2_with (at_builtin; refine wpList_append_own _ rfl _ _ 44 rfl w.heap.size 5 i (.int .u8 0) 1 1 Try.underlying44 hi hz hs hb rfl (by decide) (.slice none 0 0) 0 [] rfl (World.ownsRow_nil _ _ _ _) ⟨g, o, none⟩ m c (T.map (.int .u8)) rfl (by rw [List.length_map, lt, Nat.mul_one]) BT.news (oneCell_bytes _) (by simp [maxLen]; omega) (by omega) (Nat.le_refl _) ?_; intro v' w1 hown hgrow hnil; have hq := hgrow.cell h (by simp [Value.ownBlock]); have bl : Below w.heap.size w w1 := below_grown (Below.refl _ _) hgrow (Nat.le_refl _); have hfq : w1.frozen? ⟨p, 0, none⟩ = false := by rw [bl.frozen hp]; exact hf)
    simp only [Nat.zero_add, List.nil_append] at hown
    exact bodyPost_ret (v := .tuple #[v', .int .i64 0]) (by simp [results, Try.results122, go_sem]) rfl ⟨w1, bl, v', hown, rfl, _, .inr rfl, rfl⟩

end Go.Proofs.Ytikkmdbaekdolaa
