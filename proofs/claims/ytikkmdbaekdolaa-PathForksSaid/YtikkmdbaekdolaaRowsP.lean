/- SLICES OF ELEMENTS THAT CAME IN, of any form: each element's cells meet a condition. -/
import Derived.Test.YtikkmdbaekdolaaRowsF
namespace Go.Proofs.Ytikkmdbaekdolaa
open Go.ChangeShapes Go.WideShapes Go.ChangeAt Go.RowKit
set_option linter.unusedVariables false
set_option maxRecDepth 100000

/-- nil, or a row of 'cap' elements of n cells each, that meet Pr -/
def IsRowsP (w : World) (a : Option Addr) (len cap n : Nat) (Pr : List Value → Prop) : Prop :=
  (a = none ∧ len = 0 ∧ cap = 0) ∨ ∃ x, a = some x ∧ len ≤ cap ∧ cap ≤ maxLen ∧ ∀ i, i < cap → ∃ cs, w.cells? 0 (x.add (i * n)) n = some cs ∧ Pr cs

theorem rowsP_of_trod {H : Type} {enc : TypeId × Value → H} {P : Program} {w : World} {held : Bool} {t e : TypeId} {fuel : Nat} {a : Option Addr} {len cap : Nat} {x : DataW H × List MemPlace} (Pr : List Value → Prop)
    (ht : P.underlying t = some (.slice e)) (h : DataW.trod enc P w 0 (fun _ => true) held fuel t [.slice a len cap] = some x)
    (hel : ∀ m cs y, DataW.trod enc P w 0 (fun _ => true) held m e cs = some y → Pr cs) : IsRowsP w a len cap (P.cellsOf e) Pr := by
  rcases Go.Deep.open_slice ht h with ⟨h0, _⟩ | ⟨x', l, c, m, n, D, Pl, hcs, _, hl, hm, hmm, _, hx⟩
  · simp at h0
    exact .inl h0
  · simp at hcs
    obtain ⟨rfl, rfl, rfl⟩ := hcs
    refine .inr ⟨_, rfl, hl, hm, fun i hi => ?_⟩
    obtain ⟨cs, h1, h2⟩ := hx i (by simpa [hmm] using hi)
    exact ⟨cs, h1, hel _ _ _ h2⟩

theorem IsRowsP.plain {w : World} {a : Option Addr} {len cap n : Nat} {Pr : List Value → Prop} (h : IsRowsP w a len cap n Pr) (hn : 0 < n) :
    (len = 0 ∧ len ≤ cap ∧ cap ≤ maxLen) ∨ (0 < len ∧ len ≤ cap ∧ cap ≤ maxLen ∧ ∃ b off, a = some ⟨b, off, none⟩ ∧ b < w.heap.size ∧ ∀ i, i < len → ∃ cs, Pr cs ∧ cs.length = n ∧ ∀ j, j < n → w.cell? ⟨b, off + (i * n + j), none⟩ = cs[j]?) := by
  rcases h with ⟨rfl, rfl, rfl⟩ | ⟨x, rfl, hl, hm, hx⟩
  · exact .inl ⟨rfl, Nat.le_refl _, by simp [maxLen]⟩
  · by_cases h0 : len = 0
    · exact .inl ⟨h0, hl, hm⟩
    · refine .inr ⟨by omega, hl, hm, ?_⟩
      obtain ⟨cs0, hc0, hf0⟩ := hx 0 (by omega)
      obtain ⟨_, hlen0, hat0⟩ := World.cells?_some hc0
      have hc := hat0 0 hn
      rw [List.getElem?_eq_getElem (by omega)] at hc
      obtain ⟨b, off, spot⟩ := x
      obtain ⟨h1, h2⟩ := cell_plain hc
      have hspot : spot = none := by simpa [Addr.add] using h1
      subst hspot
      refine ⟨b, off, rfl, by simpa [Addr.add] using h2, fun i hi => ?_⟩
      obtain ⟨cs, hc, hf⟩ := hx i (by omega)
      obtain ⟨_, hlen, hat⟩ := World.cells?_some hc
      refine ⟨cs, hf, hlen, fun j hj => ?_⟩
      have := hat j hj
      rwa [addr_add, addr_add, Nat.add_assoc] at this

/-- a list of what the elements are -/
theorem list_of {α : Type} (z : α) (Q : Nat → α → Prop) : ∀ n, (∀ i, i < n → ∃ x, Q i x) → ∃ l : List α, l.length = n ∧ ∀ i, i < n → Q i (l.getD i z)
  | 0, _ => ⟨[], rfl, fun i hi => absurd hi (by omega)⟩
  | n + 1, h => by
    obtain ⟨l, h1, h2⟩ := list_of z Q n (fun i hi => h i (by omega))
    obtain ⟨x, hx⟩ := h n (by omega)
    refine ⟨l ++ [x], by simp [h1], fun i hi => ?_⟩
    by_cases e : i = n
    · subst e
      rw [List.getD_eq_getElem?_getD, List.getElem?_append_right (by omega), h1, Nat.sub_self]
      exact hx
    · rw [List.getD_eq_getElem?_getD, List.getElem?_append_left (by omega), ← List.getD_eq_getElem?_getD]
      exact h2 i (by omega)

end Go.Proofs.Ytikkmdbaekdolaa
