/- WHOLE STRUCTS, LOADED AND STORED AT ONCE: a great struct read cell by cell costs the walk minutes. -/
import Derived.Test.YtikkmdbaekdolaaGr
import Derived.Laws.Tables
import Derived.Laws.Rows
namespace Go.Proofs.Ytikkmdbaekdolaa
open Go.RowKit
set_option linter.unusedVariables false
set_option maxRecDepth 100000

theorem heap_newS (w : World) (o : Obj) (k : Nat) (hk : k = w.heap.size) : (w.alloc o).heap[k]? = some o := by
  subst hk
  exact heap_alloc_new w o
theorem heap_gwS {w : World} {k : Nat} {o : Obj} (h : w.heap[k]? = some o) (os : Array Obj) : (gw w os).heap[k]? = some o := by
  have hk : k < w.heap.size := (Array.getElem?_eq_some_iff.1 h).1
  rw [heap_gw w os k hk]
  exact h
theorem heap_drewNS {w : World} {k : Nat} {o : Obj} (h : w.heap[k]? = some o) (n : Nat) : (w.drewN n).heap[k]? = some o := h
theorem heap_drewS {w : World} {k : Nat} {o : Obj} (h : w.heap[k]? = some o) : w.drew.heap[k]? = some o := h
theorem heap_allocS {w : World} {k : Nat} {o : Obj} (h : w.heap[k]? = some o) (o' : Obj) : (w.alloc o').heap[k]? = some o := by
  have hk : k < w.heap.size := (Array.getElem?_eq_some_iff.1 h).1
  show (w.heap.push o')[k]? = some o
  rw [Array.getElem?_push, if_neg (by omega)]
  exact h

theorem new_mod (h : Array Obj) (old new : Array Value) (t : TypeId) : ((h.push (Obj.cells old t (0, 0))).modify h.size fun
      | .cells _ elem frozen => .cells new elem frozen
      | o => o) = h.push (Obj.cells new t (0, 0)) := by
  apply Array.ext_getElem?
  intro i
  rw [Array.getElem?_modify]
  simp only [Array.getElem?_push]
  by_cases e : h.size = i
  · subst e
    simp
  · have e2 : ¬ i = h.size := fun x => e x.symm
    simp [e, e2]
theorem setRow_new (w : World) (old new : Array Value) (t : TypeId) : (w.alloc (.cells old t (0, 0))).setRow w.heap.size new = w.alloc (.cells new t (0, 0)) :=
  congrArg (fun x => ({ w with heap := x } : World)) (new_mod w.heap old new t)

/-- a struct is loaded, under a guard too that is known to hold -/
theorem wpList_load_all {P : Program} {ops : Array Oper} {rest : List Oper} {o : Oper} {a : Act} {w : World} {Q : Exit → Act → World → Prop} (hw : Region.wanted o (yielded ops a.tmps) = true) (ty : TypeId) (x : Operand) (ho : o.op = .load ty x)
    (g : Nat) (hx : a.eval x = .pointer (some ⟨g, 0, none⟩)) (t : TypeId) (cs : Array Value) (fr : Nat × Nat) (d : TypeDesc) (hg : w.heap[g]? = some (.cells cs t fr))
    (hu : P.underlying ty = some d) (hd : (match d with | .struct _ | .array _ _ => true | _ => false) = true) (hi : (P.info? ty).map (·.size) = some cs.size)
    (h : wpList P ops Q rest (a.put o.dst (.agg cs)) w) : wpList P ops Q (o :: rest) a w := by
  unfold wpList
  rw [hw, if_pos rfl]
  exact .inl (wp_load_row ty x ho g hx t cs fr d hg hu hd hi h)

/-- a struct is stored into the block that was made last -/
theorem wpList_store_new {P : Program} {ops : Array Oper} {rest : List Oper} {o : Oper} {a : Act} {w : World} {Q : Exit → Act → World → Prop} (hgd : o.guard = none) (ty : TypeId) (x y : Operand) (ho : o.op = .store ty x y)
    (g : Nat) (cells : Array Value) (hx : a.eval x = .pointer (some ⟨g, 0, none⟩)) (hy : a.eval y = .agg cells) (W : World) (t : TypeId) (old : Array Value) (hw : w = W.alloc (.cells old t (0, 0))) (hg : g = W.heap.size)
    (hi : (P.info? ty).map (·.size) = some cells.size) (hold : old.size = cells.size) (h1 : cells.all (·.oneCell') = true)
    (h : wpList P ops Q rest (a.put o.dst undef) (W.alloc (.cells cells t (0, 0)))) : wpList P ops Q (o :: rest) a w := by
  subst hw hg
  exact wpList_store_row hgd ty x y ho _ cells hx hy t old (heap_alloc_new W _) hi hold h1 (by rw [setRow_new]; exact h)

theorem wpList_store_newD {P : Program} {ops : Array Oper} {rest : List Oper} {o : Oper} {a : Act} {w : World} {Q : Exit → Act → World → Prop} (hgd : o.guard = none) (ty : TypeId) (x y : Operand) (ho : o.op = .store ty x y)
    (g : Nat) (cells : Array Value) (hx : a.eval x = .pointer (some ⟨g, 0, none⟩)) (hy : a.eval y = .agg cells) (W : World) (n : Nat) (t : TypeId) (old : Array Value) (hw : w = (W.alloc (.cells old t (0, 0))).drewN n) (hg : g = W.heap.size)
    (hi : (P.info? ty).map (·.size) = some cells.size) (hold : old.size = cells.size) (h1 : cells.all (·.oneCell') = true)
    (h : wpList P ops Q rest (a.put o.dst undef) ((W.alloc (.cells cells t (0, 0))).drewN n)) : wpList P ops Q (o :: rest) a w := by
  subst hw hg
  refine wpList_store_row hgd ty x y ho _ cells hx hy t old (heap_drewNS (heap_alloc_new W _) n) hi hold h1 ?_
  have e : ((W.alloc (.cells old t (0, 0))).drewN n).setRow W.heap.size cells = (W.alloc (.cells cells t (0, 0))).drewN n := congrArg (fun x : World => x.drewN n) (setRow_new W old cells t)
  rw [e]
  exact h

end Go.Proofs.Ytikkmdbaekdolaa
