/- SLICES OF BOOLS THAT CAME IN; what a loop's round leaves as it was. -/
import Derived.Test.YtikkmdbaekdolaaBase
import Derived.Test.YtikkmdbaekdolaaGr
import Derived.Deep.Grids
namespace Go.Proofs.Ytikkmdbaekdolaa
open Go.ChangeShapes Go.WideShapes Go.ChangeAt Go.RowKit
set_option linter.unusedVariables false
set_option maxRecDepth 100000

/-- a slice of bools that came in: nil, or a row of cells that hold the bits -/
def IsBits (w : World) (a : Option Addr) (len cap : Nat) (z : Nat → Bool) : Prop :=
  (a = none ∧ len = 0 ∧ cap = 0) ∨ ∃ x, a = some x ∧ len ≤ cap ∧ cap ≤ maxLen ∧ ∀ i, i < cap → w.cell? (x.add i) = some (.bool (z i))

theorem addr_add (b off i : Nat) : (⟨b, off, none⟩ : Addr).add i = ⟨b, off + i, none⟩ := by
  simp only [Addr.add]
  split
  · rename_i h
    subst h
    rfl
  · rfl

theorem below_gw {B : Nat} {a w : World} (h : Below B a w) (hB : B ≤ w.heap.size) (os : Array Obj) : Below B a (gw w os) :=
  h.trans ((Gr.refl w).gw os |>.below.mono hB)

/-- a store makes no cell and takes none: through a chain of stores at once -/
@[simp, go_sem] theorem isSome_setCell (w : World) (p q : Addr) (v : Value) : ((w.setCell p v).cell? q).isSome = (w.cell? q).isSome := by
  cases h : w.cell? q with
  | some x =>
    obtain ⟨v', hv⟩ := cell?_setCell_some (p := p) (x := v) h
    rw [hv]
    rfl
  | none =>
    cases h2 : (w.setCell p v).cell? q with
    | none => rfl
    | some x =>
      by_cases e : p = q
      · subst e
        have hs := World.cell?_spot h2
        unfold World.cell? World.setCell at h2
        unfold World.cell? at h
        simp only [Array.getElem?_modify] at h2
        revert h h2
        cases w.heap[p.block]? with
        | none => simp
        | some o =>
          cases o <;> simp [hs]
          intro h h2
          rw [Array.getElem?_setIfInBounds] at h2
          split at h2
          · simp_all
            omega
          · simp_all
      · rw [World.cell?_setCell_other (h := e)] at h2
        rw [h] at h2
        cases h2
@[simp, go_sem] theorem lt_more {a b : Nat} (s : Nat) (h : a < b) : a < b + s := by omega

/-- a cell that is there lies in a block that is there, at no spot -/
theorem cell_plain {w : World} {x : Addr} {v : Value} (h : w.cell? x = some v) : x.spot = none ∧ x.block < w.heap.size := by
  have hs := World.cell?_spot h
  refine ⟨hs, ?_⟩
  rcases Nat.lt_or_ge x.block w.heap.size with h1 | h1
  · exact h1
  · have : w.heap[x.block]? = none := by simp [h1]
    simp [World.cell?, this] at h

/-- the row's plain form -/
theorem IsRow.plain {k : IntKind} {w : World} {a : Option Addr} {len cap : Nat} {zs : List Int} (h : IsRow k w a len cap zs) :
    (len = 0) ∨ (0 < len ∧ len ≤ maxLen ∧ ∃ b off, a = some ⟨b, off, none⟩ ∧ b < w.heap.size ∧ (∀ i, i < len → w.cell? ⟨b, off + i, none⟩ = some (.int k (zs.getD i 0))) ∧ ∀ i, i < len → (Lit.int k (zs.getD i 0)).wf = true) := by
  rcases h with ⟨rfl, rfl, rfl, rfl⟩ | ⟨x, rfl, hl, hm, hz, hcell, hwz⟩
  · exact .inl rfl
  · by_cases h0 : len = 0
    · exact .inl h0
    · refine .inr ⟨by omega, by omega, ?_⟩
      obtain ⟨b, off, spot⟩ := x
      have hc := hcell 0 (by omega)
      obtain ⟨h1, h2⟩ := cell_plain hc
      have hspot : spot = none := by simpa [Addr.add] using h1
      subst hspot
      refine ⟨b, off, rfl, by simpa [Addr.add] using h2, fun i hi => ?_, fun i hi => ?_⟩
      · have := hcell i (by omega)
        rwa [addr_add] at this
      · have hi : i < zs.length := by omega
        rw [List.getD_eq_getElem?_getD, List.getElem?_eq_getElem hi]
        exact hwz _ (List.getElem_mem hi)
theorem IsBits.plain {w : World} {a : Option Addr} {len cap : Nat} {z : Nat → Bool} (h : IsBits w a len cap z) :
    (len = 0) ∨ (0 < len ∧ len ≤ maxLen ∧ ∃ b off, a = some ⟨b, off, none⟩ ∧ b < w.heap.size ∧ ∀ i, i < len → w.cell? ⟨b, off + i, none⟩ = some (.bool (z i))) := by
  rcases h with ⟨rfl, rfl, rfl⟩ | ⟨x, rfl, hl, hm, hcell⟩
  · exact .inl rfl
  · by_cases h0 : len = 0
    · exact .inl h0
    · refine .inr ⟨by omega, by omega, ?_⟩
      obtain ⟨b, off, spot⟩ := x
      have hc := hcell 0 (by omega)
      obtain ⟨h1, h2⟩ := cell_plain hc
      have hspot : spot = none := by simpa [Addr.add] using h1
      subst hspot
      exact ⟨b, off, rfl, by simpa [Addr.add] using h2, fun i hi => by have := hcell i (by omega); rwa [addr_add] at this⟩

end Go.Proofs.Ytikkmdbaekdolaa
