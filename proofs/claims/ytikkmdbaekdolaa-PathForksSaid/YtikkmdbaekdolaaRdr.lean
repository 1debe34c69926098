/- what is read as a number, once for the reader and the reference. -/
import Derived.Test.YtikkmdbaekdolaaWord
import Derived.Test.YtikkmdbaekdolaaRefNum
namespace Go.Proofs.Ytikkmdbaekdolaa
open Go.RowKit Go.Lib
set_option linter.unusedVariables false
set_option maxRecDepth 100000

/-- a reader: what is left of it -/
def RdAt (w : World) (p : Nat) (zs : List Int) : Prop :=
  p < w.heap.size ∧ w.frozen? ⟨p, 0, none⟩ = false ∧ ∃ x c, w.cell? ⟨p, 0, none⟩ = some (.slice x zs.length c) ∧ zs.length ≤ c ∧ c ≤ 9223372036854775807 ∧ (zs = [] ∨ ∃ g o, x = some ⟨g, o, none⟩ ∧ g < p ∧ BytesAt w g o zs)

theorem RdAt.below {w w' : World} {p : Nat} {zs : List Int} (h : RdAt w p zs) (hb : Below w.heap.size w w') : RdAt w' p zs := by
  obtain ⟨h1, h2, x, c, h3, h4, h5, h6⟩ := h
  refine ⟨Nat.lt_of_lt_of_le h1 hb.size, by rw [hb.frozen h1]; exact h2, x, c, by rw [hb.cell h1]; exact h3, h4, h5, ?_⟩
  rcases h6 with rfl | ⟨g, o, rfl, h7, h8⟩
  · exact .inl rfl
  · exact .inr ⟨g, o, rfl, h7, BytesAt.below h8 hb⟩

theorem BytesAt.drop {w : World} {g o : Nat} {zs : List Int} (h : BytesAt w g o zs) (k : Nat) : BytesAt w g (o + k) (zs.drop k) :=
  ⟨h.1, fun i hi => by
    rw [List.length_drop] at hi
    have := h.2 (k + i) (by omega)
    rw [Nat.add_assoc, this, List.getD_eq_getElem?_getD, List.getD_eq_getElem?_getD, List.getElem?_drop]⟩

/-- a reader that has moved -/
theorem RdAt.moved {w w' : World} {p g o len c k : Nat} {zs : List Int} (hp : p < w.heap.size) (hf : w.frozen? ⟨p, 0, none⟩ = false) (hlt : g < p) (B : BytesAt w g o zs) (hl : zs.length = len) (hk : k ≤ len) (hc : len ≤ c ∧ c ≤ 9223372036854775807) (h0 : (w.cell? ⟨p, 0, none⟩).isSome = true)
    (h : Moved p g o len c k w w') : RdAt w' p (zs.drop k) := by
  have hne : g ≠ p := Nat.ne_of_lt hlt
  obtain ⟨x, hx, rfl⟩ := h
  have hlen : (zs.drop k).length = len - k := by rw [List.length_drop]; omega
  refine ⟨by simpa using hp, by go_simp, x, c - k, ?_, by omega, by omega, ?_⟩
  · rw [hlen]
    go_simp
  · rcases hx with hx | hx
    · left
      exact List.drop_eq_nil_of_le (by omega)
    · right
      refine ⟨g, o + k, hx, hlt, ?_⟩
      have B2 := BytesAt.drop B k
      refine ⟨by simpa using B2.1, fun i hi => ?_⟩
      rw [← B2.2 i hi]
      have hne2 : (⟨p, 0, none⟩ : Addr) ≠ ⟨g, o + k + i, none⟩ := by intro e; injection e with e1; omega
      exact World.cell?_setCell_other _ _ _ _ hne2

/-- the reader stays where its block, and those ahead of it, stay -/
theorem RdAt.belowP {w w' : World} {p B : Nat} {zs : List Int} (h : RdAt w p zs) (hp : p < B) (hb : Below B w w') : RdAt w' p zs := by
  obtain ⟨h1, h2, x, c, h3, h4, h5, h6⟩ := h
  refine ⟨Nat.lt_of_lt_of_le h1 hb.size, by rw [hb.frozen hp]; exact h2, x, c, by rw [hb.cell hp]; exact h3, h4, h5, ?_⟩
  rcases h6 with rfl | ⟨g, o, rfl, h7, h8⟩
  · exact .inl rfl
  · exact .inr ⟨g, o, rfl, h7, Nat.lt_of_lt_of_le h8.1 hb.size, fun i hi => by rw [hb.cell (Nat.lt_trans h7 hp)]; exact h8.2 i hi⟩

end Go.Proofs.Ytikkmdbaekdolaa
