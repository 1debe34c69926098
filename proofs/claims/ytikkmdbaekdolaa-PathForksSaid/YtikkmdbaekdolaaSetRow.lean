/- A STORE OF A WHOLE ROW: the world behind it under a name, with what is known of it. -/
import Derived.Test.YtikkmdbaekdolaaHold
namespace Go.Proofs.Ytikkmdbaekdolaa
open Go.RowKit
set_option linter.unusedVariables false
set_option maxRecDepth 100000

theorem setRow_heap (W : World) (g : Nat) (new : Array Value) (k : Nat) : (W.setRow g new).heap[k]? = if g = k then (W.heap[k]?).map (fun | .cells _ elem fr => .cells new elem fr | o => o) else W.heap[k]? := by
  show (W.heap.modify g _)[k]? = _
  rw [Array.getElem?_modify]
  by_cases h : g = k
  · rw [if_pos h, if_pos h]
    congr 1
  · rw [if_neg h, if_neg h]
theorem RowIs.set {W : World} {g : Nat} {t : TypeId} {old : Array Value} (h : RowIs W g t old) (new : Array Value) : RowIs (W.setRow g new) g t new := by
  have h' : W.heap[g]? = some (.cells old t (0, 0)) := h
  show (W.setRow g new).heap[g]? = _
  rw [setRow_heap, if_pos rfl, h']
  rfl
theorem RowIs.other {W : World} {g g' : Nat} {t : TypeId} {cs : Array Value} (h : RowIs W g' t cs) (new : Array Value) (hne : g ≠ g') : RowIs (W.setRow g new) g' t cs := by
  have h' : W.heap[g']? = some (.cells cs t (0, 0)) := h
  show (W.setRow g new).heap[g']? = _
  rw [setRow_heap, if_neg hne]
  exact h'
theorem setRow_below {W w0 : World} {B g : Nat} (h : Below B w0 W) (hg : B ≤ g) (new : Array Value) : Below B w0 (W.setRow g new) := by
  obtain ⟨h1, h2, h3, h4, h5⟩ := h
  refine ⟨h1, h2, h3, ?_, fun k hk => ?_⟩
  · show _ ≤ (W.heap.modify g _).size
    rw [Array.size_modify]
    exact h4
  · rw [setRow_heap, if_neg (by omega)]
    exact h5 k hk

/-- what a store of a whole row leaves -/
structure Stored (W W' : World) (g : Nat) (t : TypeId) (new : Array Value) : Prop where
  row : RowIs W' g t new
  other : ∀ {g' : Nat} {t' : TypeId} {cs : Array Value}, RowIs W g' t' cs → g ≠ g' → RowIs W' g' t' cs
  below : ∀ {w0 : World} {B : Nat}, Below B w0 W → B ≤ g → Below B w0 W'

theorem wpList_store_abs {P : Program} {ops : Array Oper} {rest : List Oper} {o : Oper} {a : Act} {w : World} {Q : Exit → Act → World → Prop} (hgd : o.guard = none) (ty : TypeId) (x y : Operand) (ho : o.op = .store ty x y)
    (g : Nat) (cells : Array Value) (hx : a.eval x = .pointer (some ⟨g, 0, none⟩)) (hy : a.eval y = .agg cells)
    (t : TypeId) (old : Array Value) (hg : RowIs w g t old) (hi : (P.info? ty).map (·.size) = some cells.size)
    (hold : old.size = cells.size) (h1 : cells.all (·.oneCell') = true)
    (h : ∀ W', Stored w W' g t cells → wpList P ops Q rest (a.put o.dst undef) W') : wpList P ops Q (o :: rest) a w :=
  wpList_store_row hgd ty x y ho g cells hx hy t old hg hi hold h1 (h _ ⟨hg.set cells, fun h hne => h.other cells hne, fun h hB => setRow_below h hB cells⟩)

/-- a load of a whole row, where a region only reads -/
theorem wpStill_load_row {P : Program} {ops : Array Oper} {w : World} {Q : Act → Prop} {a : Act} {o : Oper} {rest : List Oper} (hw : Region.wanted o (yielded ops a.tmps) = true) (ty : TypeId) (x : Operand) (ho : o.op = .load ty x)
    (g : Nat) (hx : a.eval x = .pointer (some ⟨g, 0, none⟩)) (t : TypeId) (cs : Array Value) (d : TypeDesc) (hg : RowIs w g t cs)
    (hu : P.underlying ty = some d) (hd : (match d with | .struct _ | .array _ _ => true | _ => false) = true) (hi : (P.info? ty).map (·.size) = some cs.size)
    (h : wpStill P ops w Q rest (a.put o.dst (.agg cs))) : wpStill P ops w Q (o :: rest) a := by
  unfold wpStill
  rw [hw, if_pos rfl]
  unfold Oper.still
  rw [exec_load_row ty x ho g hx t cs _ d hg hu hd hi, Oper.stillUpon_value]
  exact h
theorem RowIs.drew {W : World} {g : Nat} {t : TypeId} {cs : Array Value} (h : RowIs W g t cs) : RowIs W.drew g t cs := h

end Go.Proofs.Ytikkmdbaekdolaa
