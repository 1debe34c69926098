/- configurations that are made of any numbers: what splittallylaw0.At and Conf return. -/
import Derived.Test.YtikkmdbaekdolaaBase
import Derived.Test.YtikkmdbaekdolaaBits
import Derived.StillTailTactics
import Derived.Deep.Light
namespace Go.Proofs.Ytikkmdbaekdolaa
open Go.RowKit Go.Lib
set_option linter.unusedVariables false
set_option maxRecDepth 100000

/-- the i-th number of a row, 0 behind the last -/
def atF (len : Nat) (z : Nat → Int) (i : Nat) : Int := if i < len then z i else 0

/-- a row of numbers of 32 bits, as far as it goes -/
def Nums (w : World) (a : Option Addr) (len : Nat) (z : Nat → Int) : Prop :=
  len ≤ 9223372036854775807 ∧ (len = 0 ∨ ∃ b off, a = some ⟨b, off, none⟩ ∧ b < w.heap.size ∧ ∀ i, i < len → w.cell? ⟨b, off + i, none⟩ = some (.int .u32 (z i)) ∧ 0 ≤ z i ∧ z i ≤ 4294967295)

theorem Nums.below {w w' : World} {a : Option Addr} {len : Nat} {z : Nat → Int} (h : Nums w a len z) (hb : Below w.heap.size w w') : Nums w' a len z := by
  obtain ⟨h0, h | ⟨b, off, rfl, h1, h2⟩⟩ := h
  · exact ⟨h0, .inl h⟩
  · refine ⟨h0, .inr ⟨b, off, rfl, Nat.lt_of_lt_of_le h1 hb.size, fun i hi => ?_⟩⟩
    rw [hb.cell h1]
    exact h2 i hi
theorem Nums.atF {w : World} {a : Option Addr} {len : Nat} {z : Nat → Int} (h : Nums w a len z) (i : Nat) : 0 ≤ atF len z i ∧ atF len z i ≤ 4294967295 := by
  unfold Go.Proofs.Ytikkmdbaekdolaa.atF
  split
  · obtain ⟨_, h | ⟨b, off, rfl, h1, h2⟩⟩ := h
    · omega
    · exact (h2 i ‹_›).2
  · omega
theorem nums_of_row {w : World} {a : Option Addr} {len cap : Nat} {zs : List Int} (h : IsRow .u32 w a len cap zs) : Nums w a len (fun i => zs.getD i 0) := by
  rcases h with ⟨rfl, rfl, rfl, rfl⟩ | ⟨x, rfl, hl, hm, hz, hc, hw⟩
  · exact ⟨by omega, .inl rfl⟩
  · unfold maxLen at hm
    refine ⟨by omega, ?_⟩
    by_cases h0 : len = 0
    · exact .inl h0
    · obtain ⟨b, off, spot⟩ := x
      have h1 := hc 0 (by omega)
      obtain ⟨p1, p2⟩ := cell_plain h1
      have hs : spot = none := by simpa [Addr.add] using p1
      subst hs
      refine .inr ⟨b, off, rfl, by simpa [Addr.add] using p2, fun i hi => ?_⟩
      have h2 := hc i (by omega)
      rw [addr_add] at h2
      refine ⟨h2, wfU32 (hw _ ?_)⟩
      show zs.getD i 0 ∈ zs
      rw [List.getD_eq_getElem?_getD, List.getElem?_eq_getElem (by omega)]
      exact List.getElem_mem _

theorem zAt (a : Option Addr) (len cap : Nat) (z : Nat → Int) (i : Nat) (n : Int) (hn : n = (i : Int)) (hi : i < 17) (w : World) (h : Nums w a len z) :
    Calls Try.prog 57 #[.slice a len cap, .int .i64 n] w fun e w' => e = .returned (.int .u64 (atF len z i)) ∧ w = w' := by
  subst hn
  obtain ⟨h0, h⟩ := h
  by_cases hl : i < len
  · obtain h | ⟨b, off, rfl, h1, h2⟩ := h
    · omega
    · obtain ⟨h3, h4, h5⟩ := h2 i hl
      have e1 : ((i : Int) < (len : Int)) := by omega
      have e2 : (0 : Int) ≤ (i : Int) := by omega
      have e3 : (i : Int) ≤ 17 := by omega
      have e4 : (len : Int) ≤ 9223372036854775807 := by omega
      have e5 : atF len z i = z i := by unfold atF; rw [if_pos hl]
      rw [e5]
      clear h2 e5
      go_enter Try.func57, Try.ntmps57
      go_wp2_with fail
      all_goals first
        | (go_ret; exact ⟨rfl, rfl⟩)
        | (exfalso; go_light; simp at *; done)
        | (exfalso; go_light; simp only [decide_eq_true_eq, decide_eq_false_iff_not, beq_iff_eq, Bool.or_eq_true] at *; omega)
  · have e1 : ((len : Int) ≤ (i : Int)) := by omega
    have e2 : (0 : Int) ≤ (i : Int) := by omega
    have e3 : (i : Int) ≤ 17 := by omega
    have e5 : atF len z i = 0 := by unfold atF; rw [if_neg hl]
    rw [e5]
    clear h e5
    go_enter Try.func57, Try.ntmps57
    go_wp2_with fail
    all_goals first
      | (go_ret; exact ⟨rfl, rfl⟩)
      | (exfalso; go_light; simp at *; done)
      | (exfalso; go_light; simp only [decide_eq_true_eq, decide_eq_false_iff_not, beq_iff_eq, Bool.or_eq_true] at *; omega)

end Go.Proofs.Ytikkmdbaekdolaa
