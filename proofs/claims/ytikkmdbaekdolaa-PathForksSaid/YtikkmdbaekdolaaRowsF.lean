/- SLICES OF FLAT ELEMENTS THAT CAME IN: structs and pairs of integers and bools. -/
import Derived.Test.YtikkmdbaekdolaaBits
import Derived.Deep.Slices
namespace Go.Proofs.Ytikkmdbaekdolaa
open Go.ChangeShapes Go.WideShapes Go.ChangeAt Go.RowKit
set_option linter.unusedVariables false
set_option maxRecDepth 100000

/-- nil, or a row of 'cap' elements of n cells each, that fit -/
def IsRowsF (w : World) (a : Option Addr) (len cap n : Nat) (ks : List (Option IntKind)) : Prop :=
  (a = none ∧ len = 0 ∧ cap = 0) ∨ ∃ x, a = some x ∧ len ≤ cap ∧ cap ≤ maxLen ∧ ∀ i, i < cap → ∃ cs, w.cells? 0 (x.add (i * n)) n = some cs ∧ Fits ks cs

theorem Fits.length : ∀ (ks : List (Option IntKind)) (cs : List Value), Fits ks cs → ks.length = cs.length
  | [], [], _ => rfl
  | some k :: ks, c :: cs, h => congrArg (· + 1) (Fits.length ks cs h.2)
  | none :: ks, c :: cs, h => congrArg (· + 1) (Fits.length ks cs h.2)
  | [], _ :: _, h => h.elim
  | some _ :: _, [], h => h.elim
  | none :: _, [], h => h.elim

theorem rows_of_trod {H : Type} {enc : TypeId × Value → H} {P : Program} {w : World} {held : Bool} {t e : TypeId} {fuel : Nat} {a : Option Addr} {len cap : Nat} {x : DataW H × List MemPlace} (ks : List (Option IntKind))
    (ht : P.underlying t = some (.slice e)) (h : DataW.trod enc P w 0 (fun _ => true) held fuel t [.slice a len cap] = some x)
    (hel : ∀ m cs y, DataW.trod enc P w 0 (fun _ => true) held m e cs = some y → Fits ks cs) : IsRowsF w a len cap (P.cellsOf e) ks := by
  rcases Go.Deep.open_slice ht h with ⟨h0, _⟩ | ⟨x', l, c, m, n, D, Pl, hcs, _, hl, hm, hmm, _, hx⟩
  · simp at h0
    exact .inl h0
  · simp at hcs
    obtain ⟨rfl, rfl, rfl⟩ := hcs
    refine .inr ⟨_, rfl, hl, hm, fun i hi => ?_⟩
    obtain ⟨cs, h1, h2⟩ := hx i (by simpa [hmm] using hi)
    exact ⟨cs, h1, hel _ _ _ h2⟩

theorem IsRowsF.plain {w : World} {a : Option Addr} {len cap n : Nat} {ks : List (Option IntKind)} (h : IsRowsF w a len cap n ks) (hn : 0 < n) :
    (len = 0) ∨ (0 < len ∧ len ≤ maxLen ∧ ∃ b off, a = some ⟨b, off, none⟩ ∧ b < w.heap.size ∧ ∀ i, i < len → ∃ cs, Fits ks cs ∧ cs.length = n ∧ ∀ j, j < n → w.cell? ⟨b, off + (i * n + j), none⟩ = cs[j]?) := by
  rcases h with ⟨rfl, rfl, rfl⟩ | ⟨x, rfl, hl, hm, hx⟩
  · exact .inl rfl
  · by_cases h0 : len = 0
    · exact .inl h0
    · refine .inr ⟨by omega, by omega, ?_⟩
      obtain ⟨cs0, hc0, hf0⟩ := hx 0 (by omega)
      obtain ⟨_, hlen0, hat0⟩ := World.cells?_some hc0
      have hc := hat0 0 hn
      rw [List.getElem?_eq_getElem (by omega)] at hc
      obtain ⟨b, off, spot⟩ := x
      obtain ⟨h1, h2⟩ := cell_plain hc
      have hspot : spot = none := by simpa [Addr.add] using h1
      subst hspot
      refine ⟨b, off, rfl, by simpa [Addr.add] using h2, fun i hi => ?_⟩
      obtain ⟨cs, hc, hf⟩ := hx i (by omega)
      obtain ⟨_, hlen, hat⟩ := World.cells?_some hc
      refine ⟨cs, hf, hlen, fun j hj => ?_⟩
      have := hat j hj
      rwa [addr_add, addr_add, Nat.add_assoc] at this

theorem pair_of_trod {H : Type} {enc : TypeId × Value → H} {P : Program} {w : World} {base : Nat} {spare : Nat → Bool} {held : Bool} {t e : TypeId} {k : IntKind} {fuel : Nat} {cs : List Value} {x : DataW H × List MemPlace}
    (ht : P.underlying t = some (.array 2 e)) (he : P.underlying e = some (.int k)) (hc : P.cellsOf e = 1) (hct : P.cellsOf t = 2) (h : DataW.trod enc P w base spare held fuel t cs = some x) : Fits [some k, some k] cs := by
  obtain ⟨xs, m, _, _, hlen, hxs, hf⟩ := DataW.trod_array ht h
  rw [hct] at hlen
  match cs, hlen with
  | [c0, c1], _ =>
    have h0 := hf 0 (by omega)
    have h1 := hf 1 (by omega)
    rw [hc, List.getElem?_eq_getElem (by omega)] at h0 h1
    obtain ⟨m0, e0, _, w0⟩ := DataW.trod_int he h0
    obtain ⟨m1, e1, _, w1⟩ := DataW.trod_int he h1
    simp at e0 e1
    exact ⟨⟨m0, e0, w0⟩, ⟨m1, e1, w1⟩, trivial⟩

end Go.Proofs.Ytikkmdbaekdolaa
