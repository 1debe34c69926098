/- the reference's configuration check: what splittallyref11.Check returns, for every configuration. -/
import Derived.Test.YtikkmdbaekdolaaBase
import Derived.Test.YtikkmdbaekdolaaRef
import Derived.Test.YtikkmdbaekdolaaGr
import Derived.Test.YtikkmdbaekdolaaConfLaw
import Derived.Laws.Tables
import Derived.Deep.RegionHeld3
import Derived.OrdersHeld
import Derived.Test.YtikkmdbaekdolaaTurn
import Derived.Test.YtikkmdbaekdolaaHeld
namespace Go.Proofs.Ytikkmdbaekdolaa
open Go.RowKit Go.Lib
set_option linter.unusedVariables false
set_option maxRecDepth 100000

@[go_sem] theorem pick_and (p q : Bool) : (if p = true then (if p = true then Value.bool q else undef) else Value.bool false) = Value.bool (p && q) := by cases p <;> rfl
@[go_sem] theorem pick_and' (p q : Bool) : (if p = true then Value.bool q else Value.bool false) = Value.bool (p && q) := by cases p <;> rfl
@[go_sem] theorem pick_or (p q : Bool) : (if p = true then Value.bool true else (if (!p) = true then Value.bool q else undef)) = Value.bool (p || q) := by cases p <;> rfl
@[go_sem] theorem pick_or' (p q : Bool) : (if p = true then Value.bool true else (if p = false then Value.bool q else undef)) = Value.bool (p || q) := by cases p <;> rfl
@[go_sem] theorem pick_or'' (p q : Bool) : (if p = true then Value.bool true else Value.bool q) = Value.bool (p || q) := by cases p <;> rfl

theorem wp_store_end {P : Program} {o : Oper} {a : Act} {w : World} {K : Act → World → Prop} {Q : Exit → Act → World → Prop} (ty : TypeId) (x y : Operand) (ho : o.op = .store ty x y) (hd : o.dst = none)
    (g : Nat) (cells : Array Value) (hx : a.eval x = .pointer (some ⟨g, 0, none⟩)) (hy : a.eval y = .agg cells)
    (t : TypeId) (old : Array Value) (hg : w.heap[g]? = some (.cells old t (0, 0))) (hi : (P.info? ty).map (·.size) = some cells.size)
    (hold : old.size = cells.size) (h1 : cells.all (·.oneCell') = true)
    (h : K a (w.setRow g cells)) : o.wp P a w K Q :=
  wp_store_row ty x y ho g cells hx hy t old hg hi hold h1 (by rw [hd]; exact h)
theorem top_heap (w : World) (A : Obj) (cs : Array Value) (t : TypeId) : ((w.alloc A).alloc (.cells cs t (0, 0))).drew.heap[w.heap.size + 1]? = some (.cells cs t (0, 0)) := by
  show ((w.heap.push A).push (Obj.cells cs t (0, 0)))[w.heap.size + 1]? = _
  rw [Array.getElem?_push, if_pos (by simp)]
theorem top_mod (h : Array Obj) (old new : Array Value) (t : TypeId) (A : Obj) : (((h.push A).push (Obj.cells old t (0, 0))).modify (h.size + 1) fun
      | .cells _ elem frozen => .cells new elem frozen
      | o => o) = (h.push A).push (Obj.cells new t (0, 0)) := by
  apply Array.ext_getElem?
  intro i
  rw [Array.getElem?_modify]
  simp only [Array.getElem?_push, Array.size_push]
  by_cases e : h.size + 1 = i
  · subst e
    simp
  · have e2 : ¬ i = h.size + 1 := fun x => e x.symm
    simp [e, e2]
theorem setRow_top (w : World) (old new : Array Value) (t : TypeId) (A : Obj) : ((w.alloc A).alloc (.cells old t (0, 0))).drew.setRow (w.heap.size + 1) new = ((w.alloc A).alloc (.cells new t (0, 0))).drew :=
  congrArg (fun x => ({ w.drew with heap := x } : World)) (top_mod w.heap old new t A)

noncomputable def regOps : List Oper := (Try.f60.body.bind (opsAt 1)).getD []
theorem noSel : Region.noSelect regOps.toArray = true := by kernel_rfl
theorem chk0 : headB .any regOps.toArray 10 0 #[false, false, false, false, false, false, false, false, false, false, false, false, false, false, false, false, false, false, false, false, false, false, false, false, false, false, false, false, false, false, false, false, false, false, false, false, false, false, false, false, false, false, false, false, false, false, false, false, false, false, false, false, false, false, false, false, false, false, false, false, false, false, false, false, false, false, false, false, false, false, false, false, false, false, false, false, false, false, false, false, false, false, false, false, false, false, false, false, false, false, false, false, false, false, false, false, false, false, false, false, false, false, false, false, false, false, false, false, false, false, false, false, false, false, false, false, false, false, false, false, false, false, false, false, false, false, false, false, false, false, false, false, false, false, false, false, false] = true := by kernel_rfl
theorem chk1 : headB .any regOps.toArray 10 10 #[true, true, true, true, true, true, true, true, true, true, false, false, false, false, false, false, false, false, false, false, false, false, false, false, false, false, false, false, false, false, false, false, false, false, false, false, false, false, false, false, false, false, false, false, false, false, false, false, false, false, false, false, false, false, false, false, false, false, false, false, false, false, false, false, false, false, false, false, false, false, false, false, false, false, false, false, false, false, false, false, false, false, false, false, false, false, false, false, false, false, false, false, false, false, false, false, false, false, false, false, false, false, false, false, false, false, false, false, false, false, false, false, false, false, false, false, false, false, false, false, false, false, false, false, false, false, false, false, false, false, false, false, false, false, false, false, false] = true := by kernel_rfl
theorem chk2 : headB .any regOps.toArray 10 20 #[true, true, true, true, true, true, true, true, true, true, true, true, true, true, true, true, true, true, true, true, false, false, false, false, false, false, false, false, false, false, false, false, false, false, false, false, false, false, false, false, false, false, false, false, false, false, false, false, false, false, false, false, false, false, false, false, false, false, false, false, false, false, false, false, false, false, false, false, false, false, false, false, false, false, false, false, false, false, false, false, false, false, false, false, false, false, false, false, false, false, false, false, false, false, false, false, false, false, false, false, false, false, false, false, false, false, false, false, false, false, false, false, false, false, false, false, false, false, false, false, false, false, false, false, false, false, false, false, false, false, false, false, false, false, false, false, false] = true := by kernel_rfl
theorem chk3 : headB .any regOps.toArray 10 30 #[true, true, true, true, true, true, true, true, true, true, true, true, true, true, true, true, true, true, true, true, true, true, true, true, true, true, true, true, true, true, false, false, false, false, false, false, false, false, false, false, false, false, false, false, false, false, false, false, false, false, false, false, false, false, false, false, false, false, false, false, false, false, false, false, false, false, false, false, false, false, false, false, false, false, false, false, false, false, false, false, false, false, false, false, false, false, false, false, false, false, false, false, false, false, false, false, false, false, false, false, false, false, false, false, false, false, false, false, false, false, false, false, false, false, false, false, false, false, false, false, false, false, false, false, false, false, false, false, false, false, false, false, false, false, false, false, false] = true := by kernel_rfl
theorem chk4 : headB .any regOps.toArray 10 40 #[true, true, true, true, true, true, true, true, true, true, true, true, true, true, true, true, true, true, true, true, true, true, true, true, true, true, true, true, true, true, true, true, true, true, true, true, true, true, true, true, false, false, false, false, false, false, false, false, false, false, false, false, false, false, false, false, false, false, false, false, false, false, false, false, false, false, false, false, false, false, false, false, false, false, false, false, false, false, false, false, false, false, false, false, false, false, false, false, false, false, false, false, false, false, false, false, false, false, false, false, false, false, false, false, false, false, false, false, false, false, false, false, false, false, false, false, false, false, false, false, false, false, false, false, false, false, false, false, false, false, false, false, false, false, false, false, false] = true := by kernel_rfl
theorem chk5 : headB .any regOps.toArray 4 50 #[true, true, true, true, true, true, true, true, true, true, true, true, true, true, true, true, true, true, true, true, true, true, true, true, true, true, true, true, true, true, true, true, true, true, true, true, true, true, true, true, true, true, true, true, true, true, true, true, true, true, false, false, false, false, false, false, false, false, false, false, false, false, false, false, false, false, false, false, false, false, false, false, false, false, false, false, false, false, false, false, false, false, false, false, false, false, false, false, false, false, false, false, false, false, false, false, false, false, false, false, false, false, false, false, false, false, false, false, false, false, false, false, false, false, false, false, false, false, false, false, false, false, false, false, false, false, false, false, false, false, false, false, false, false, false, false, false] = true := by kernel_rfl
theorem chk6 : headB .any regOps.toArray 5 56 #[true, true, true, true, true, true, true, true, true, true, true, true, true, true, true, true, true, true, true, true, true, true, true, true, true, true, true, true, true, true, true, true, true, true, true, true, true, true, true, true, true, true, true, true, true, true, true, true, true, true, true, true, true, true, false, false, false, false, false, false, false, false, false, false, false, false, false, false, false, false, false, false, false, false, false, false, false, false, false, false, false, false, false, false, false, false, false, false, false, false, false, false, false, false, false, false, false, false, false, false, false, false, false, false, false, false, false, false, false, false, false, false, false, false, false, false, false, false, false, false, false, false, false, false, false, false, false, false, false, false, false, false, false, false, false, false, false] = true := by kernel_rfl
theorem chk7 : headB .any regOps.toArray 3 66 #[true, true, true, true, true, true, true, true, true, true, true, true, true, true, true, true, true, true, true, true, true, true, true, true, true, true, true, true, true, true, true, true, true, true, true, true, true, true, true, true, true, true, true, true, true, true, true, true, true, true, true, true, true, true, false, false, true, true, true, true, true, false, false, false, false, false, false, false, false, false, false, false, false, false, false, false, false, false, false, false, false, false, false, false, false, false, false, false, false, false, false, false, false, false, false, false, false, false, false, false, false, false, false, false, false, false, false, false, false, false, false, false, false, false, false, false, false, false, false, false, false, false, false, false, false, false, false, false, false, false, false, false, false, false, false, false, false] = true := by kernel_rfl
theorem chk8 : headB .any regOps.toArray 3 74 #[true, true, true, true, true, true, true, true, true, true, true, true, true, true, true, true, true, true, true, true, true, true, true, true, true, true, true, true, true, true, true, true, true, true, true, true, true, true, true, true, true, true, true, true, true, true, true, true, true, true, true, true, true, true, false, false, true, true, true, true, true, false, false, false, false, false, true, true, true, false, false, false, false, false, false, false, false, false, false, false, false, false, false, false, false, false, false, false, false, false, false, false, false, false, false, false, false, false, false, false, false, false, false, false, false, false, false, false, false, false, false, false, false, false, false, false, false, false, false, false, false, false, false, false, false, false, false, false, false, false, false, false, false, false, false, false, false] = true := by kernel_rfl
theorem chk9 : headB .any regOps.toArray 3 82 #[true, true, true, true, true, true, true, true, true, true, true, true, true, true, true, true, true, true, true, true, true, true, true, true, true, true, true, true, true, true, true, true, true, true, true, true, true, true, true, true, true, true, true, true, true, true, true, true, true, true, true, true, true, true, false, false, true, true, true, true, true, false, false, false, false, false, true, true, true, false, false, false, false, false, true, true, true, false, false, false, false, false, false, false, false, false, false, false, false, false, false, false, false, false, false, false, false, false, false, false, false, false, false, false, false, false, false, false, false, false, false, false, false, false, false, false, false, false, false, false, false, false, false, false, false, false, false, false, false, false, false, false, false, false, false, false, false] = true := by kernel_rfl
theorem chk10 : headB .any regOps.toArray 5 90 #[true, true, true, true, true, true, true, true, true, true, true, true, true, true, true, true, true, true, true, true, true, true, true, true, true, true, true, true, true, true, true, true, true, true, true, true, true, true, true, true, true, true, true, true, true, true, true, true, true, true, true, true, true, true, false, false, true, true, true, true, true, false, false, false, false, false, true, true, true, false, false, false, false, false, true, true, true, false, false, false, false, false, true, true, true, false, false, false, false, false, false, false, false, false, false, false, false, false, false, false, false, false, false, false, false, false, false, false, false, false, false, false, false, false, false, false, false, false, false, false, false, false, false, false, false, false, false, false, false, false, false, false, false, false, false, false, false] = true := by kernel_rfl
theorem chk11 : headB .any regOps.toArray 5 100 #[true, true, true, true, true, true, true, true, true, true, true, true, true, true, true, true, true, true, true, true, true, true, true, true, true, true, true, true, true, true, true, true, true, true, true, true, true, true, true, true, true, true, true, true, true, true, true, true, true, true, true, true, true, true, false, false, true, true, true, true, true, false, false, false, false, false, true, true, true, false, false, false, false, false, true, true, true, false, false, false, false, false, true, true, true, false, false, false, false, false, true, true, true, true, true, false, false, false, false, false, false, false, false, false, false, false, false, false, false, false, false, false, false, false, false, false, false, false, false, false, false, false, false, false, false, false, false, false, false, false, false, false, false, false, false, false, false] = true := by kernel_rfl
theorem chk12 : headB .any regOps.toArray 3 110 #[true, true, true, true, true, true, true, true, true, true, true, true, true, true, true, true, true, true, true, true, true, true, true, true, true, true, true, true, true, true, true, true, true, true, true, true, true, true, true, true, true, true, true, true, true, true, true, true, true, true, true, true, true, true, false, false, true, true, true, true, true, false, false, false, false, false, true, true, true, false, false, false, false, false, true, true, true, false, false, false, false, false, true, true, true, false, false, false, false, false, true, true, true, true, true, false, false, false, false, false, true, true, true, true, true, false, false, false, false, false, false, false, false, false, false, false, false, false, false, false, false, false, false, false, false, false, false, false, false, false, false, false, false, false, false, false, false] = true := by kernel_rfl
theorem chk13 : headB .any regOps.toArray 3 118 #[true, true, true, true, true, true, true, true, true, true, true, true, true, true, true, true, true, true, true, true, true, true, true, true, true, true, true, true, true, true, true, true, true, true, true, true, true, true, true, true, true, true, true, true, true, true, true, true, true, true, true, true, true, true, false, false, true, true, true, true, true, false, false, false, false, false, true, true, true, false, false, false, false, false, true, true, true, false, false, false, false, false, true, true, true, false, false, false, false, false, true, true, true, true, true, false, false, false, false, false, true, true, true, true, true, false, false, false, false, false, true, true, true, false, false, false, false, false, false, false, false, false, false, false, false, false, false, false, false, false, false, false, false, false, false, false, false] = true := by kernel_rfl
theorem chk14 : headB .any regOps.toArray 3 126 #[true, true, true, true, true, true, true, true, true, true, true, true, true, true, true, true, true, true, true, true, true, true, true, true, true, true, true, true, true, true, true, true, true, true, true, true, true, true, true, true, true, true, true, true, true, true, true, true, true, true, true, true, true, true, false, false, true, true, true, true, true, false, false, false, false, false, true, true, true, false, false, false, false, false, true, true, true, false, false, false, false, false, true, true, true, false, false, false, false, false, true, true, true, true, true, false, false, false, false, false, true, true, true, true, true, false, false, false, false, false, true, true, true, false, false, false, false, false, true, true, true, false, false, false, false, false, false, false, false, false, false, false, false, false, false, false, false] = true := by kernel_rfl
theorem chk15 : Region.ready .any regOps.toArray #[true, true, true, true, true, true, true, true, true, true, true, true, true, true, true, true, true, true, true, true, true, true, true, true, true, true, true, true, true, true, true, true, true, true, true, true, true, true, true, true, true, true, true, true, true, true, true, true, true, true, true, true, true, true, false, false, true, true, true, true, true, false, false, false, false, false, true, true, true, false, false, false, false, false, true, true, true, false, false, false, false, false, true, true, true, false, false, false, false, false, true, true, true, true, true, false, false, false, false, false, true, true, true, true, true, false, false, false, false, false, true, true, true, false, false, false, false, false, true, true, true, false, false, false, false, false, true, true, true, false, false, false, false, false, false, false, false] = [54, 135] := by kernel_rfl
theorem chk16 : headB .any regOps.toArray 1 55 #[true, true, true, true, true, true, true, true, true, true, true, true, true, true, true, true, true, true, true, true, true, true, true, true, true, true, true, true, true, true, true, true, true, true, true, true, true, true, true, true, true, true, true, true, true, true, true, true, true, true, true, true, true, true, true, false, true, true, true, true, true, false, false, false, false, false, true, true, true, false, false, false, false, false, true, true, true, false, false, false, false, false, true, true, true, false, false, false, false, false, true, true, true, true, true, false, false, false, false, false, true, true, true, true, true, false, false, false, false, false, true, true, true, false, false, false, false, false, true, true, true, false, false, false, false, false, true, true, true, false, false, false, false, false, false, false, false] = true := by kernel_rfl
theorem chk17 : headB .any regOps.toArray 5 61 #[true, true, true, true, true, true, true, true, true, true, true, true, true, true, true, true, true, true, true, true, true, true, true, true, true, true, true, true, true, true, true, true, true, true, true, true, true, true, true, true, true, true, true, true, true, true, true, true, true, true, true, true, true, true, true, true, true, true, true, true, true, false, false, false, false, false, true, true, true, false, false, false, false, false, true, true, true, false, false, false, false, false, true, true, true, false, false, false, false, false, true, true, true, true, true, false, false, false, false, false, true, true, true, true, true, false, false, false, false, false, true, true, true, false, false, false, false, false, true, true, true, false, false, false, false, false, true, true, true, false, false, false, false, false, false, false, false] = true := by kernel_rfl
theorem chk18 : headB .any regOps.toArray 5 69 #[true, true, true, true, true, true, true, true, true, true, true, true, true, true, true, true, true, true, true, true, true, true, true, true, true, true, true, true, true, true, true, true, true, true, true, true, true, true, true, true, true, true, true, true, true, true, true, true, true, true, true, true, true, true, true, true, true, true, true, true, true, true, true, true, true, true, true, true, true, false, false, false, false, false, true, true, true, false, false, false, false, false, true, true, true, false, false, false, false, false, true, true, true, true, true, false, false, false, false, false, true, true, true, true, true, false, false, false, false, false, true, true, true, false, false, false, false, false, true, true, true, false, false, false, false, false, true, true, true, false, false, false, false, false, false, false, false] = true := by kernel_rfl
theorem chk19 : headB .any regOps.toArray 5 77 #[true, true, true, true, true, true, true, true, true, true, true, true, true, true, true, true, true, true, true, true, true, true, true, true, true, true, true, true, true, true, true, true, true, true, true, true, true, true, true, true, true, true, true, true, true, true, true, true, true, true, true, true, true, true, true, true, true, true, true, true, true, true, true, true, true, true, true, true, true, true, true, true, true, true, true, true, true, false, false, false, false, false, true, true, true, false, false, false, false, false, true, true, true, true, true, false, false, false, false, false, true, true, true, true, true, false, false, false, false, false, true, true, true, false, false, false, false, false, true, true, true, false, false, false, false, false, true, true, true, false, false, false, false, false, false, false, false] = true := by kernel_rfl
theorem chk20 : headB .any regOps.toArray 5 85 #[true, true, true, true, true, true, true, true, true, true, true, true, true, true, true, true, true, true, true, true, true, true, true, true, true, true, true, true, true, true, true, true, true, true, true, true, true, true, true, true, true, true, true, true, true, true, true, true, true, true, true, true, true, true, true, true, true, true, true, true, true, true, true, true, true, true, true, true, true, true, true, true, true, true, true, true, true, true, true, true, true, true, true, true, true, false, false, false, false, false, true, true, true, true, true, false, false, false, false, false, true, true, true, true, true, false, false, false, false, false, true, true, true, false, false, false, false, false, true, true, true, false, false, false, false, false, true, true, true, false, false, false, false, false, false, false, false] = true := by kernel_rfl
theorem chk21 : headB .any regOps.toArray 5 95 #[true, true, true, true, true, true, true, true, true, true, true, true, true, true, true, true, true, true, true, true, true, true, true, true, true, true, true, true, true, true, true, true, true, true, true, true, true, true, true, true, true, true, true, true, true, true, true, true, true, true, true, true, true, true, true, true, true, true, true, true, true, true, true, true, true, true, true, true, true, true, true, true, true, true, true, true, true, true, true, true, true, true, true, true, true, true, true, true, true, true, true, true, true, true, true, false, false, false, false, false, true, true, true, true, true, false, false, false, false, false, true, true, true, false, false, false, false, false, true, true, true, false, false, false, false, false, true, true, true, false, false, false, false, false, false, false, false] = true := by kernel_rfl
theorem chk22 : headB .any regOps.toArray 5 105 #[true, true, true, true, true, true, true, true, true, true, true, true, true, true, true, true, true, true, true, true, true, true, true, true, true, true, true, true, true, true, true, true, true, true, true, true, true, true, true, true, true, true, true, true, true, true, true, true, true, true, true, true, true, true, true, true, true, true, true, true, true, true, true, true, true, true, true, true, true, true, true, true, true, true, true, true, true, true, true, true, true, true, true, true, true, true, true, true, true, true, true, true, true, true, true, true, true, true, true, true, true, true, true, true, true, false, false, false, false, false, true, true, true, false, false, false, false, false, true, true, true, false, false, false, false, false, true, true, true, false, false, false, false, false, false, false, false] = true := by kernel_rfl
theorem chk23 : headB .any regOps.toArray 5 113 #[true, true, true, true, true, true, true, true, true, true, true, true, true, true, true, true, true, true, true, true, true, true, true, true, true, true, true, true, true, true, true, true, true, true, true, true, true, true, true, true, true, true, true, true, true, true, true, true, true, true, true, true, true, true, true, true, true, true, true, true, true, true, true, true, true, true, true, true, true, true, true, true, true, true, true, true, true, true, true, true, true, true, true, true, true, true, true, true, true, true, true, true, true, true, true, true, true, true, true, true, true, true, true, true, true, true, true, true, true, true, true, true, true, false, false, false, false, false, true, true, true, false, false, false, false, false, true, true, true, false, false, false, false, false, false, false, false] = true := by kernel_rfl
theorem chk24 : headB .any regOps.toArray 5 121 #[true, true, true, true, true, true, true, true, true, true, true, true, true, true, true, true, true, true, true, true, true, true, true, true, true, true, true, true, true, true, true, true, true, true, true, true, true, true, true, true, true, true, true, true, true, true, true, true, true, true, true, true, true, true, true, true, true, true, true, true, true, true, true, true, true, true, true, true, true, true, true, true, true, true, true, true, true, true, true, true, true, true, true, true, true, true, true, true, true, true, true, true, true, true, true, true, true, true, true, true, true, true, true, true, true, true, true, true, true, true, true, true, true, true, true, true, true, true, true, true, true, false, false, false, false, false, true, true, true, false, false, false, false, false, false, false, false] = true := by kernel_rfl
theorem chk25 : headB .any regOps.toArray 5 129 #[true, true, true, true, true, true, true, true, true, true, true, true, true, true, true, true, true, true, true, true, true, true, true, true, true, true, true, true, true, true, true, true, true, true, true, true, true, true, true, true, true, true, true, true, true, true, true, true, true, true, true, true, true, true, true, true, true, true, true, true, true, true, true, true, true, true, true, true, true, true, true, true, true, true, true, true, true, true, true, true, true, true, true, true, true, true, true, true, true, true, true, true, true, true, true, true, true, true, true, true, true, true, true, true, true, true, true, true, true, true, true, true, true, true, true, true, true, true, true, true, true, true, true, true, true, true, true, true, true, false, false, false, false, false, false, false, false] = true := by kernel_rfl
theorem chk26 : headB .any regOps.toArray 1 134 #[true, true, true, true, true, true, true, true, true, true, true, true, true, true, true, true, true, true, true, true, true, true, true, true, true, true, true, true, true, true, true, true, true, true, true, true, true, true, true, true, true, true, true, true, true, true, true, true, true, true, true, true, true, true, true, true, true, true, true, true, true, true, true, true, true, true, true, true, true, true, true, true, true, true, true, true, true, true, true, true, true, true, true, true, true, true, true, true, true, true, true, true, true, true, true, true, true, true, true, true, true, true, true, true, true, true, true, true, true, true, true, true, true, true, true, true, true, true, true, true, true, true, true, true, true, true, true, true, true, true, true, true, true, true, false, false, false] = true := by kernel_rfl
theorem chk27 : Region.ready .any regOps.toArray #[true, true, true, true, true, true, true, true, true, true, true, true, true, true, true, true, true, true, true, true, true, true, true, true, true, true, true, true, true, true, true, true, true, true, true, true, true, true, true, true, true, true, true, true, true, true, true, true, true, true, true, true, true, true, true, true, true, true, true, true, true, true, true, true, true, true, true, true, true, true, true, true, true, true, true, true, true, true, true, true, true, true, true, true, true, true, true, true, true, true, true, true, true, true, true, true, true, true, true, true, true, true, true, true, true, true, true, true, true, true, true, true, true, true, true, true, true, true, true, true, true, true, true, true, true, true, true, true, true, true, true, true, true, true, true, false, false] = [135] := by kernel_rfl
theorem chk28 : Region.ready .any regOps.toArray #[true, true, true, true, true, true, true, true, true, true, true, true, true, true, true, true, true, true, true, true, true, true, true, true, true, true, true, true, true, true, true, true, true, true, true, true, true, true, true, true, true, true, true, true, true, true, true, true, true, true, true, true, true, true, true, true, true, true, true, true, true, true, true, true, true, true, true, true, true, true, true, true, true, true, true, true, true, true, true, true, true, true, true, true, true, true, true, true, true, true, true, true, true, true, true, true, true, true, true, true, true, true, true, true, true, true, true, true, true, true, true, true, true, true, true, true, true, true, true, true, true, true, true, true, true, true, true, true, true, true, true, true, true, true, true, true, false] = [136] := by kernel_rfl
theorem chk29 : Region.ready .any regOps.toArray #[true, true, true, true, true, true, true, true, true, true, true, true, true, true, true, true, true, true, true, true, true, true, true, true, true, true, true, true, true, true, true, true, true, true, true, true, true, true, true, true, true, true, true, true, true, true, true, true, true, true, true, true, true, true, false, false, true, true, true, true, true, false, false, false, false, false, true, true, true, false, false, false, false, false, true, true, true, false, false, false, false, false, true, true, true, false, false, false, false, false, true, true, true, true, true, false, false, false, false, false, true, true, true, true, true, false, false, false, false, false, true, true, true, false, false, false, false, false, true, true, true, false, false, false, false, false, true, true, true, false, false, false, false, false, false, true, false] = [54] := by kernel_rfl
theorem chk30 : headB .any regOps.toArray 1 55 #[true, true, true, true, true, true, true, true, true, true, true, true, true, true, true, true, true, true, true, true, true, true, true, true, true, true, true, true, true, true, true, true, true, true, true, true, true, true, true, true, true, true, true, true, true, true, true, true, true, true, true, true, true, true, true, false, true, true, true, true, true, false, false, false, false, false, true, true, true, false, false, false, false, false, true, true, true, false, false, false, false, false, true, true, true, false, false, false, false, false, true, true, true, true, true, false, false, false, false, false, true, true, true, true, true, false, false, false, false, false, true, true, true, false, false, false, false, false, true, true, true, false, false, false, false, false, true, true, true, false, false, false, false, false, false, true, false] = true := by kernel_rfl
theorem chk31 : headB .any regOps.toArray 5 61 #[true, true, true, true, true, true, true, true, true, true, true, true, true, true, true, true, true, true, true, true, true, true, true, true, true, true, true, true, true, true, true, true, true, true, true, true, true, true, true, true, true, true, true, true, true, true, true, true, true, true, true, true, true, true, true, true, true, true, true, true, true, false, false, false, false, false, true, true, true, false, false, false, false, false, true, true, true, false, false, false, false, false, true, true, true, false, false, false, false, false, true, true, true, true, true, false, false, false, false, false, true, true, true, true, true, false, false, false, false, false, true, true, true, false, false, false, false, false, true, true, true, false, false, false, false, false, true, true, true, false, false, false, false, false, false, true, false] = true := by kernel_rfl
theorem chk32 : headB .any regOps.toArray 5 69 #[true, true, true, true, true, true, true, true, true, true, true, true, true, true, true, true, true, true, true, true, true, true, true, true, true, true, true, true, true, true, true, true, true, true, true, true, true, true, true, true, true, true, true, true, true, true, true, true, true, true, true, true, true, true, true, true, true, true, true, true, true, true, true, true, true, true, true, true, true, false, false, false, false, false, true, true, true, false, false, false, false, false, true, true, true, false, false, false, false, false, true, true, true, true, true, false, false, false, false, false, true, true, true, true, true, false, false, false, false, false, true, true, true, false, false, false, false, false, true, true, true, false, false, false, false, false, true, true, true, false, false, false, false, false, false, true, false] = true := by kernel_rfl
theorem chk33 : headB .any regOps.toArray 5 77 #[true, true, true, true, true, true, true, true, true, true, true, true, true, true, true, true, true, true, true, true, true, true, true, true, true, true, true, true, true, true, true, true, true, true, true, true, true, true, true, true, true, true, true, true, true, true, true, true, true, true, true, true, true, true, true, true, true, true, true, true, true, true, true, true, true, true, true, true, true, true, true, true, true, true, true, true, true, false, false, false, false, false, true, true, true, false, false, false, false, false, true, true, true, true, true, false, false, false, false, false, true, true, true, true, true, false, false, false, false, false, true, true, true, false, false, false, false, false, true, true, true, false, false, false, false, false, true, true, true, false, false, false, false, false, false, true, false] = true := by kernel_rfl
theorem chk34 : headB .any regOps.toArray 5 85 #[true, true, true, true, true, true, true, true, true, true, true, true, true, true, true, true, true, true, true, true, true, true, true, true, true, true, true, true, true, true, true, true, true, true, true, true, true, true, true, true, true, true, true, true, true, true, true, true, true, true, true, true, true, true, true, true, true, true, true, true, true, true, true, true, true, true, true, true, true, true, true, true, true, true, true, true, true, true, true, true, true, true, true, true, true, false, false, false, false, false, true, true, true, true, true, false, false, false, false, false, true, true, true, true, true, false, false, false, false, false, true, true, true, false, false, false, false, false, true, true, true, false, false, false, false, false, true, true, true, false, false, false, false, false, false, true, false] = true := by kernel_rfl
theorem chk35 : headB .any regOps.toArray 5 95 #[true, true, true, true, true, true, true, true, true, true, true, true, true, true, true, true, true, true, true, true, true, true, true, true, true, true, true, true, true, true, true, true, true, true, true, true, true, true, true, true, true, true, true, true, true, true, true, true, true, true, true, true, true, true, true, true, true, true, true, true, true, true, true, true, true, true, true, true, true, true, true, true, true, true, true, true, true, true, true, true, true, true, true, true, true, true, true, true, true, true, true, true, true, true, true, false, false, false, false, false, true, true, true, true, true, false, false, false, false, false, true, true, true, false, false, false, false, false, true, true, true, false, false, false, false, false, true, true, true, false, false, false, false, false, false, true, false] = true := by kernel_rfl
theorem chk36 : headB .any regOps.toArray 5 105 #[true, true, true, true, true, true, true, true, true, true, true, true, true, true, true, true, true, true, true, true, true, true, true, true, true, true, true, true, true, true, true, true, true, true, true, true, true, true, true, true, true, true, true, true, true, true, true, true, true, true, true, true, true, true, true, true, true, true, true, true, true, true, true, true, true, true, true, true, true, true, true, true, true, true, true, true, true, true, true, true, true, true, true, true, true, true, true, true, true, true, true, true, true, true, true, true, true, true, true, true, true, true, true, true, true, false, false, false, false, false, true, true, true, false, false, false, false, false, true, true, true, false, false, false, false, false, true, true, true, false, false, false, false, false, false, true, false] = true := by kernel_rfl
theorem chk37 : headB .any regOps.toArray 5 113 #[true, true, true, true, true, true, true, true, true, true, true, true, true, true, true, true, true, true, true, true, true, true, true, true, true, true, true, true, true, true, true, true, true, true, true, true, true, true, true, true, true, true, true, true, true, true, true, true, true, true, true, true, true, true, true, true, true, true, true, true, true, true, true, true, true, true, true, true, true, true, true, true, true, true, true, true, true, true, true, true, true, true, true, true, true, true, true, true, true, true, true, true, true, true, true, true, true, true, true, true, true, true, true, true, true, true, true, true, true, true, true, true, true, false, false, false, false, false, true, true, true, false, false, false, false, false, true, true, true, false, false, false, false, false, false, true, false] = true := by kernel_rfl
theorem chk38 : headB .any regOps.toArray 5 121 #[true, true, true, true, true, true, true, true, true, true, true, true, true, true, true, true, true, true, true, true, true, true, true, true, true, true, true, true, true, true, true, true, true, true, true, true, true, true, true, true, true, true, true, true, true, true, true, true, true, true, true, true, true, true, true, true, true, true, true, true, true, true, true, true, true, true, true, true, true, true, true, true, true, true, true, true, true, true, true, true, true, true, true, true, true, true, true, true, true, true, true, true, true, true, true, true, true, true, true, true, true, true, true, true, true, true, true, true, true, true, true, true, true, true, true, true, true, true, true, true, true, false, false, false, false, false, true, true, true, false, false, false, false, false, false, true, false] = true := by kernel_rfl
theorem chk39 : headB .any regOps.toArray 5 129 #[true, true, true, true, true, true, true, true, true, true, true, true, true, true, true, true, true, true, true, true, true, true, true, true, true, true, true, true, true, true, true, true, true, true, true, true, true, true, true, true, true, true, true, true, true, true, true, true, true, true, true, true, true, true, true, true, true, true, true, true, true, true, true, true, true, true, true, true, true, true, true, true, true, true, true, true, true, true, true, true, true, true, true, true, true, true, true, true, true, true, true, true, true, true, true, true, true, true, true, true, true, true, true, true, true, true, true, true, true, true, true, true, true, true, true, true, true, true, true, true, true, true, true, true, true, true, true, true, true, false, false, false, false, false, false, true, false] = true := by kernel_rfl
theorem chk40 : headB .any regOps.toArray 1 134 #[true, true, true, true, true, true, true, true, true, true, true, true, true, true, true, true, true, true, true, true, true, true, true, true, true, true, true, true, true, true, true, true, true, true, true, true, true, true, true, true, true, true, true, true, true, true, true, true, true, true, true, true, true, true, true, true, true, true, true, true, true, true, true, true, true, true, true, true, true, true, true, true, true, true, true, true, true, true, true, true, true, true, true, true, true, true, true, true, true, true, true, true, true, true, true, true, true, true, true, true, true, true, true, true, true, true, true, true, true, true, true, true, true, true, true, true, true, true, true, true, true, true, true, true, true, true, true, true, true, true, true, true, true, true, false, true, false] = true := by kernel_rfl
theorem chk41 : Region.ready .any regOps.toArray #[true, true, true, true, true, true, true, true, true, true, true, true, true, true, true, true, true, true, true, true, true, true, true, true, true, true, true, true, true, true, true, true, true, true, true, true, true, true, true, true, true, true, true, true, true, true, true, true, true, true, true, true, true, true, true, true, true, true, true, true, true, true, true, true, true, true, true, true, true, true, true, true, true, true, true, true, true, true, true, true, true, true, true, true, true, true, true, true, true, true, true, true, true, true, true, true, true, true, true, true, true, true, true, true, true, true, true, true, true, true, true, true, true, true, true, true, true, true, true, true, true, true, true, true, true, true, true, true, true, true, true, true, true, true, true, true, false] = [136] := by kernel_rfl

set_option maxHeartbeats 40000000 in
set_option maxRecDepth 100000 in
theorem rCheck_core (x0 x1 x2 x3 x4 x5 x6 x7 x8 x9 x10 x11 x12 x13 x14 x15 x16 : Int) (p0 q0 p2 q2 p4 q4 p5 q5 p6 q6 p8 q8 p10 q10 p11 q11 p12 q12 p13 q13 p14 q14 p15 q15 p16 q16 p9 q9 b0 b1 b2 b3 b4 b5 b6 b7 b8 b9 b10 b11 b12 b13 b14 b15 b16 : Bool) (hp0 : decide (1 ≤ x0) = p0) (hq0 : decide (x0 ≤ 64) = q0) (hb0 : (p0 && q0) = b0) (hp2 : decide (4 ≤ x2) = p2) (hq2 : decide (x2 ≤ 256) = q2) (hb2 : (p2 && q2) = b2) (hp4 : decide (1 ≤ x4) = p4) (hq4 : decide (x4 ≤ 65536) = q4) (hb4 : (p4 && q4) = b4) (hp5 : decide (1 ≤ x5) = p5) (hq5 : decide (x5 ≤ 1500) = q5) (hb5 : (p5 && q5) = b5) (hp6 : decide (x7 ≤ x6) = p6) (hq6 : decide (x6 ≤ x8) = q6) (hb6 : (p6 && q6) = b6) (hp8 : decide (x7 ≤ x8) = p8) (hq8 : decide (x8 ≤ 1073741824) = q8) (hb8 : (p8 && q8) = b8) (hp10 : decide (1 ≤ x10) = p10) (hq10 : decide (x10 ≤ 1099511627776) = q10) (hb10 : (p10 && q10) = b10) (hp11 : decide (1 ≤ x11) = p11) (hq11 : decide (x11 ≤ 1099511627776) = q11) (hb11 : (p11 && q11) = b11) (hp12 : decide (x11 ≤ x12) = p12) (hq12 : decide (x12 ≤ 1099511627776) = q12) (hb12 : (p12 && q12) = b12) (hp13 : decide (x5 ≤ x13) = p13) (hq13 : decide (x13 ≤ 1073741824) = q13) (hb13 : (p13 && q13) = b13) (hp14 : decide (1 ≤ x14) = p14) (hq14 : decide (x14 ≤ 4294967296) = q14) (hb14 : (p14 && q14) = b14) (hp15 : decide (0 ≤ x15) = p15) (hq15 : decide (x15 ≤ 64) = q15) (hb15 : (p15 && q15) = b15) (hp16 : decide (1 ≤ x16) = p16) (hq16 : decide (x16 ≤ 1099511627776) = q16) (hb16 : (p16 && q16) = b16) (hb1 : (x1 != 1) = b1) (hb3 : decide (x3 ≤ 4611686018427387903) = b3) (hb7 : decide (mulI 2 x5 ≤ x7) = b7) (hp9 : (x9 == 1) = p9) (hq9 : (x9 == 2) = q9) (hb9 : (p9 || q9) = b9) (H5 : Hid (W64 x5)) (w : World) :
    Calls Try.prog 60 #[.agg #[.int .i64 x0, .int .u64 x1, .int .i64 x2, .int .u64 x3, .int .i64 x4, .int .u64 x5, .int .u64 x6, .int .u64 x7, .int .u64 x8, .int .i64 x9, .int .u64 x10, .int .u64 x11, .int .u64 x12, .int .u64 x13, .int .u64 x14, .int .i64 x15, .int .u64 x16]] w fun e w' => e = .returned (.int .i64 (firstI b0 b1 b2 b3 b4 b5 b6 b7 b8 b9 b10 b11 b12 b13 b14 b15 b16)) ∧ Gr w w' := by
  go_enter Try.func60, Try.ntmps60
  go_wp2_with fail
  simp only [List.append]
  refine held_start (S := fun w' => w'.cell? ⟨w.heap.size, 0, none⟩ = some (.int .i64 x0) ∧ w'.cell? ⟨w.heap.size, 1, none⟩ = some (.int .u64 x1) ∧ w'.cell? ⟨w.heap.size, 2, none⟩ = some (.int .i64 x2) ∧ w'.cell? ⟨w.heap.size, 3, none⟩ = some (.int .u64 x3) ∧ w'.cell? ⟨w.heap.size, 4, none⟩ = some (.int .i64 x4) ∧ w'.cell? ⟨w.heap.size, 5, none⟩ = some (.int .u64 x5) ∧ w'.cell? ⟨w.heap.size, 6, none⟩ = some (.int .u64 x6) ∧ w'.cell? ⟨w.heap.size, 7, none⟩ = some (.int .u64 x7) ∧ w'.cell? ⟨w.heap.size, 8, none⟩ = some (.int .u64 x8) ∧ w'.cell? ⟨w.heap.size, 9, none⟩ = some (.int .i64 x9) ∧ w'.cell? ⟨w.heap.size, 10, none⟩ = some (.int .u64 x10) ∧ w'.cell? ⟨w.heap.size, 11, none⟩ = some (.int .u64 x11) ∧ w'.cell? ⟨w.heap.size, 12, none⟩ = some (.int .u64 x12) ∧ w'.cell? ⟨w.heap.size, 13, none⟩ = some (.int .u64 x13) ∧ w'.cell? ⟨w.heap.size, 14, none⟩ = some (.int .u64 x14) ∧ w'.cell? ⟨w.heap.size, 15, none⟩ = some (.int .i64 x15) ∧ w'.cell? ⟨w.heap.size, 16, none⟩ = some (.int .u64 x16)) #[false, false, false, false, false, false, false, false, false, false, false, false, false, false, false, false, false, false, false, false, false, false, false, false, false, false, false, false, false, false, false, false, false, false, false, false, false, false, false, false, false, false, false, false, false, false, false, false, false, false, false, false, false, false, false, false, false, false, false, false, false, false, false, false, false, false, false, false, false, false, false, false, false, false, false, false, false, false, false, false, false, false, false, false, false, false, false, false, false, false, false, false, false, false, false, false, false, false, false, false, false, false, false, false, false, false, false, false, false, false, false, false, false, false, false, false, false, false, false, false, false, false, false, false, false, false, false, false, false, false, false, false, false, false, false, false, false] 137 (by kernel_rfl) (by kernel_rfl) (by kernel_rfl) (by go_simp) (fun hHeld => ?_)
  refine held_step regOps (by kernel_rfl) 0 10 127 137 rfl (by kernel_rfl) noSel chk0 (listed' := #[true, true, true, true, true, true, true, true, true, true, false, false, false, false, false, false, false, false, false, false, false, false, false, false, false, false, false, false, false, false, false, false, false, false, false, false, false, false, false, false, false, false, false, false, false, false, false, false, false, false, false, false, false, false, false, false, false, false, false, false, false, false, false, false, false, false, false, false, false, false, false, false, false, false, false, false, false, false, false, false, false, false, false, false, false, false, false, false, false, false, false, false, false, false, false, false, false, false, false, false, false, false, false, false, false, false, false, false, false, false, false, false, false, false, false, false, false, false, false, false, false, false, false, false, false, false, false, false, false, false, false, false, false, false, false, false, false]) (by kernel_rfl) (fun _ _ d _ _ h => by cases d <;> exact h) (by assumption) ?_
  simp only [List.drop_zero, List.take_succ_cons, List.take_zero]
  refine wpHeld_val (.pointer (some ⟨w.heap.size, 0, none⟩)) (by rfl) (fun w hS => by (try dsimp only at hS); go_simp) ?_
  simp only [Act.put, List.setIfInBounds_toArray, List.set_cons_zero, List.set_cons_succ]
  refine wpHeld_val (.int .i64 x0) (by rfl) (fun w hS => by (try dsimp only at hS); go_simp) ?_
  simp only [Act.put, List.setIfInBounds_toArray, List.set_cons_zero, List.set_cons_succ]
  refine wpHeld_val (.bool p0) (by rfl) (fun w hS => by (try dsimp only at hS); go_simp) ?_
  simp only [Act.put, List.setIfInBounds_toArray, List.set_cons_zero, List.set_cons_succ]
  refine wpHeld_val (.bool p0) (by rfl) (fun w hS => by (try dsimp only at hS); go_simp) ?_
  simp only [Act.put, List.setIfInBounds_toArray, List.set_cons_zero, List.set_cons_succ]
  refine wpHeld_guard p0 (.pointer (some ⟨w.heap.size, 0, none⟩)) (by go_simp) (fun hp w hS => by (try dsimp only at hS); (try simp only [hp]); go_simp) ?_
  simp only [Act.put, List.setIfInBounds_toArray, List.set_cons_zero, List.set_cons_succ]
  refine wpHeld_guard p0 (.int .i64 x0) (by go_simp) (fun hp w hS => by (try dsimp only at hS); (try simp only [hp]); go_simp) ?_
  simp only [Act.put, List.setIfInBounds_toArray, List.set_cons_zero, List.set_cons_succ]
  refine wpHeld_guard p0 (.bool q0) (by go_simp) (fun hp w hS => by (try dsimp only at hS); (try simp only [hp]); go_simp) ?_
  simp only [Act.put, List.setIfInBounds_toArray, List.set_cons_zero, List.set_cons_succ]
  refine wpHeld_val (.bool b0) (by rfl) (fun w hS => by (try dsimp only at hS); go_simp) ?_
  simp only [Act.put, List.setIfInBounds_toArray, List.set_cons_zero, List.set_cons_succ]
  refine wpHeld_val (.pointer (some ⟨w.heap.size, 1, none⟩)) (by rfl) (fun w hS => by (try dsimp only at hS); go_simp) ?_
  simp only [Act.put, List.setIfInBounds_toArray, List.set_cons_zero, List.set_cons_succ]
  refine wpHeld_val (.int .u64 x1) (by rfl) (fun w hS => by (try dsimp only at hS); go_simp) ?_
  simp only [Act.put, List.setIfInBounds_toArray, List.set_cons_zero, List.set_cons_succ]
  refine wpHeld_nil ?_
  refine held_step regOps (by kernel_rfl) 10 10 117 127 rfl (by kernel_rfl) noSel chk1 (listed' := #[true, true, true, true, true, true, true, true, true, true, true, true, true, true, true, true, true, true, true, true, false, false, false, false, false, false, false, false, false, false, false, false, false, false, false, false, false, false, false, false, false, false, false, false, false, false, false, false, false, false, false, false, false, false, false, false, false, false, false, false, false, false, false, false, false, false, false, false, false, false, false, false, false, false, false, false, false, false, false, false, false, false, false, false, false, false, false, false, false, false, false, false, false, false, false, false, false, false, false, false, false, false, false, false, false, false, false, false, false, false, false, false, false, false, false, false, false, false, false, false, false, false, false, false, false, false, false, false, false, false, false, false, false, false, false, false, false]) (by kernel_rfl) (fun _ _ d _ _ h => by cases d <;> exact h) (by assumption) ?_
  simp only [List.drop_succ_cons, List.drop_zero, List.take_succ_cons, List.take_zero]
  refine wpHeld_val (.bool b1) (by rfl) (fun w hS => by (try dsimp only at hS); go_simp) ?_
  simp only [Act.put, List.setIfInBounds_toArray, List.set_cons_zero, List.set_cons_succ]
  refine wpHeld_val (.pointer (some ⟨w.heap.size, 2, none⟩)) (by rfl) (fun w hS => by (try dsimp only at hS); go_simp) ?_
  simp only [Act.put, List.setIfInBounds_toArray, List.set_cons_zero, List.set_cons_succ]
  refine wpHeld_val (.int .i64 x2) (by rfl) (fun w hS => by (try dsimp only at hS); go_simp) ?_
  simp only [Act.put, List.setIfInBounds_toArray, List.set_cons_zero, List.set_cons_succ]
  refine wpHeld_val (.bool p2) (by rfl) (fun w hS => by (try dsimp only at hS); go_simp) ?_
  simp only [Act.put, List.setIfInBounds_toArray, List.set_cons_zero, List.set_cons_succ]
  refine wpHeld_val (.bool p2) (by rfl) (fun w hS => by (try dsimp only at hS); go_simp) ?_
  simp only [Act.put, List.setIfInBounds_toArray, List.set_cons_zero, List.set_cons_succ]
  refine wpHeld_guard p2 (.pointer (some ⟨w.heap.size, 2, none⟩)) (by go_simp) (fun hp w hS => by (try dsimp only at hS); (try simp only [hp]); go_simp) ?_
  simp only [Act.put, List.setIfInBounds_toArray, List.set_cons_zero, List.set_cons_succ]
  refine wpHeld_guard p2 (.int .i64 x2) (by go_simp) (fun hp w hS => by (try dsimp only at hS); (try simp only [hp]); go_simp) ?_
  simp only [Act.put, List.setIfInBounds_toArray, List.set_cons_zero, List.set_cons_succ]
  refine wpHeld_guard p2 (.bool q2) (by go_simp) (fun hp w hS => by (try dsimp only at hS); (try simp only [hp]); go_simp) ?_
  simp only [Act.put, List.setIfInBounds_toArray, List.set_cons_zero, List.set_cons_succ]
  refine wpHeld_val (.bool b2) (by rfl) (fun w hS => by (try dsimp only at hS); go_simp) ?_
  simp only [Act.put, List.setIfInBounds_toArray, List.set_cons_zero, List.set_cons_succ]
  refine wpHeld_val (.pointer (some ⟨w.heap.size, 3, none⟩)) (by rfl) (fun w hS => by (try dsimp only at hS); go_simp) ?_
  simp only [Act.put, List.setIfInBounds_toArray, List.set_cons_zero, List.set_cons_succ]
  refine wpHeld_nil ?_
  refine held_step regOps (by kernel_rfl) 20 10 107 117 rfl (by kernel_rfl) noSel chk2 (listed' := #[true, true, true, true, true, true, true, true, true, true, true, true, true, true, true, true, true, true, true, true, true, true, true, true, true, true, true, true, true, true, false, false, false, false, false, false, false, false, false, false, false, false, false, false, false, false, false, false, false, false, false, false, false, false, false, false, false, false, false, false, false, false, false, false, false, false, false, false, false, false, false, false, false, false, false, false, false, false, false, false, false, false, false, false, false, false, false, false, false, false, false, false, false, false, false, false, false, false, false, false, false, false, false, false, false, false, false, false, false, false, false, false, false, false, false, false, false, false, false, false, false, false, false, false, false, false, false, false, false, false, false, false, false, false, false, false, false]) (by kernel_rfl) (fun _ _ d _ _ h => by cases d <;> exact h) (by assumption) ?_
  simp only [List.drop_succ_cons, List.drop_zero, List.take_succ_cons, List.take_zero]
  refine wpHeld_val (.int .u64 x3) (by rfl) (fun w hS => by (try dsimp only at hS); go_simp) ?_
  simp only [Act.put, List.setIfInBounds_toArray, List.set_cons_zero, List.set_cons_succ]
  refine wpHeld_val (.bool b3) (by rfl) (fun w hS => by (try dsimp only at hS); go_simp) ?_
  simp only [Act.put, List.setIfInBounds_toArray, List.set_cons_zero, List.set_cons_succ]
  refine wpHeld_val (.pointer (some ⟨w.heap.size, 4, none⟩)) (by rfl) (fun w hS => by (try dsimp only at hS); go_simp) ?_
  simp only [Act.put, List.setIfInBounds_toArray, List.set_cons_zero, List.set_cons_succ]
  refine wpHeld_val (.int .i64 x4) (by rfl) (fun w hS => by (try dsimp only at hS); go_simp) ?_
  simp only [Act.put, List.setIfInBounds_toArray, List.set_cons_zero, List.set_cons_succ]
  refine wpHeld_val (.bool p4) (by rfl) (fun w hS => by (try dsimp only at hS); go_simp) ?_
  simp only [Act.put, List.setIfInBounds_toArray, List.set_cons_zero, List.set_cons_succ]
  refine wpHeld_val (.bool p4) (by rfl) (fun w hS => by (try dsimp only at hS); go_simp) ?_
  simp only [Act.put, List.setIfInBounds_toArray, List.set_cons_zero, List.set_cons_succ]
  refine wpHeld_guard p4 (.pointer (some ⟨w.heap.size, 4, none⟩)) (by go_simp) (fun hp w hS => by (try dsimp only at hS); (try simp only [hp]); go_simp) ?_
  simp only [Act.put, List.setIfInBounds_toArray, List.set_cons_zero, List.set_cons_succ]
  refine wpHeld_guard p4 (.int .i64 x4) (by go_simp) (fun hp w hS => by (try dsimp only at hS); (try simp only [hp]); go_simp) ?_
  simp only [Act.put, List.setIfInBounds_toArray, List.set_cons_zero, List.set_cons_succ]
  refine wpHeld_guard p4 (.bool q4) (by go_simp) (fun hp w hS => by (try dsimp only at hS); (try simp only [hp]); go_simp) ?_
  simp only [Act.put, List.setIfInBounds_toArray, List.set_cons_zero, List.set_cons_succ]
  refine wpHeld_val (.bool b4) (by rfl) (fun w hS => by (try dsimp only at hS); go_simp) ?_
  simp only [Act.put, List.setIfInBounds_toArray, List.set_cons_zero, List.set_cons_succ]
  refine wpHeld_nil ?_
  refine held_step regOps (by kernel_rfl) 30 10 97 107 rfl (by kernel_rfl) noSel chk3 (listed' := #[true, true, true, true, true, true, true, true, true, true, true, true, true, true, true, true, true, true, true, true, true, true, true, true, true, true, true, true, true, true, true, true, true, true, true, true, true, true, true, true, false, false, false, false, false, false, false, false, false, false, false, false, false, false, false, false, false, false, false, false, false, false, false, false, false, false, false, false, false, false, false, false, false, false, false, false, false, false, false, false, false, false, false, false, false, false, false, false, false, false, false, false, false, false, false, false, false, false, false, false, false, false, false, false, false, false, false, false, false, false, false, false, false, false, false, false, false, false, false, false, false, false, false, false, false, false, false, false, false, false, false, false, false, false, false, false, false]) (by kernel_rfl) (fun _ _ d _ _ h => by cases d <;> exact h) (by assumption) ?_
  simp only [List.drop_succ_cons, List.drop_zero, List.take_succ_cons, List.take_zero]
  refine wpHeld_val (.pointer (some ⟨w.heap.size, 5, none⟩)) (by rfl) (fun w hS => by (try dsimp only at hS); go_simp) ?_
  simp only [Act.put, List.setIfInBounds_toArray, List.set_cons_zero, List.set_cons_succ]
  refine wpHeld_val (.int .u64 x5) (by rfl) (fun w hS => by (try dsimp only at hS); go_simp) ?_
  simp only [Act.put, List.setIfInBounds_toArray, List.set_cons_zero, List.set_cons_succ]
  refine wpHeld_val (.bool p5) (by rfl) (fun w hS => by (try dsimp only at hS); go_simp) ?_
  simp only [Act.put, List.setIfInBounds_toArray, List.set_cons_zero, List.set_cons_succ]
  refine wpHeld_val (.bool p5) (by rfl) (fun w hS => by (try dsimp only at hS); go_simp) ?_
  simp only [Act.put, List.setIfInBounds_toArray, List.set_cons_zero, List.set_cons_succ]
  refine wpHeld_guard p5 (.pointer (some ⟨w.heap.size, 5, none⟩)) (by go_simp) (fun hp w hS => by (try dsimp only at hS); (try simp only [hp]); go_simp) ?_
  simp only [Act.put, List.setIfInBounds_toArray, List.set_cons_zero, List.set_cons_succ]
  refine wpHeld_guard p5 (.int .u64 x5) (by go_simp) (fun hp w hS => by (try dsimp only at hS); (try simp only [hp]); go_simp) ?_
  simp only [Act.put, List.setIfInBounds_toArray, List.set_cons_zero, List.set_cons_succ]
  refine wpHeld_guard p5 (.bool q5) (by go_simp) (fun hp w hS => by (try dsimp only at hS); (try simp only [hp]); go_simp) ?_
  simp only [Act.put, List.setIfInBounds_toArray, List.set_cons_zero, List.set_cons_succ]
  refine wpHeld_val (.bool b5) (by rfl) (fun w hS => by (try dsimp only at hS); go_simp) ?_
  simp only [Act.put, List.setIfInBounds_toArray, List.set_cons_zero, List.set_cons_succ]
  refine wpHeld_val (.pointer (some ⟨w.heap.size, 6, none⟩)) (by rfl) (fun w hS => by (try dsimp only at hS); go_simp) ?_
  simp only [Act.put, List.setIfInBounds_toArray, List.set_cons_zero, List.set_cons_succ]
  refine wpHeld_val (.int .u64 x6) (by rfl) (fun w hS => by (try dsimp only at hS); go_simp) ?_
  simp only [Act.put, List.setIfInBounds_toArray, List.set_cons_zero, List.set_cons_succ]
  refine wpHeld_nil ?_
  refine held_step regOps (by kernel_rfl) 40 10 87 97 rfl (by kernel_rfl) noSel chk4 (listed' := #[true, true, true, true, true, true, true, true, true, true, true, true, true, true, true, true, true, true, true, true, true, true, true, true, true, true, true, true, true, true, true, true, true, true, true, true, true, true, true, true, true, true, true, true, true, true, true, true, true, true, false, false, false, false, false, false, false, false, false, false, false, false, false, false, false, false, false, false, false, false, false, false, false, false, false, false, false, false, false, false, false, false, false, false, false, false, false, false, false, false, false, false, false, false, false, false, false, false, false, false, false, false, false, false, false, false, false, false, false, false, false, false, false, false, false, false, false, false, false, false, false, false, false, false, false, false, false, false, false, false, false, false, false, false, false, false, false]) (by kernel_rfl) (fun _ _ d _ _ h => by cases d <;> exact h) (by assumption) ?_
  simp only [List.drop_succ_cons, List.drop_zero, List.take_succ_cons, List.take_zero]
  refine wpHeld_val (.pointer (some ⟨w.heap.size, 7, none⟩)) (by rfl) (fun w hS => by (try dsimp only at hS); go_simp) ?_
  simp only [Act.put, List.setIfInBounds_toArray, List.set_cons_zero, List.set_cons_succ]
  refine wpHeld_val (.int .u64 x7) (by rfl) (fun w hS => by (try dsimp only at hS); go_simp) ?_
  simp only [Act.put, List.setIfInBounds_toArray, List.set_cons_zero, List.set_cons_succ]
  refine wpHeld_val (.bool p6) (by rfl) (fun w hS => by (try dsimp only at hS); go_simp) ?_
  simp only [Act.put, List.setIfInBounds_toArray, List.set_cons_zero, List.set_cons_succ]
  refine wpHeld_val (.bool p6) (by rfl) (fun w hS => by (try dsimp only at hS); go_simp) ?_
  simp only [Act.put, List.setIfInBounds_toArray, List.set_cons_zero, List.set_cons_succ]
  refine wpHeld_guard p6 (.pointer (some ⟨w.heap.size, 6, none⟩)) (by go_simp) (fun hp w hS => by (try dsimp only at hS); (try simp only [hp]); go_simp) ?_
  simp only [Act.put, List.setIfInBounds_toArray, List.set_cons_zero, List.set_cons_succ]
  refine wpHeld_guard p6 (.int .u64 x6) (by go_simp) (fun hp w hS => by (try dsimp only at hS); (try simp only [hp]); go_simp) ?_
  simp only [Act.put, List.setIfInBounds_toArray, List.set_cons_zero, List.set_cons_succ]
  refine wpHeld_guard p6 (.pointer (some ⟨w.heap.size, 8, none⟩)) (by go_simp) (fun hp w hS => by (try dsimp only at hS); (try simp only [hp]); go_simp) ?_
  simp only [Act.put, List.setIfInBounds_toArray, List.set_cons_zero, List.set_cons_succ]
  refine wpHeld_guard p6 (.int .u64 x8) (by go_simp) (fun hp w hS => by (try dsimp only at hS); (try simp only [hp]); go_simp) ?_
  simp only [Act.put, List.setIfInBounds_toArray, List.set_cons_zero, List.set_cons_succ]
  refine wpHeld_guard p6 (.bool q6) (by go_simp) (fun hp w hS => by (try dsimp only at hS); (try simp only [hp]); go_simp) ?_
  simp only [Act.put, List.setIfInBounds_toArray, List.set_cons_zero, List.set_cons_succ]
  refine wpHeld_val (.bool b6) (by rfl) (fun w hS => by (try dsimp only at hS); go_simp) ?_
  simp only [Act.put, List.setIfInBounds_toArray, List.set_cons_zero, List.set_cons_succ]
  refine wpHeld_nil ?_
  refine held_step regOps (by kernel_rfl) 50 4 83 87 rfl (by kernel_rfl) noSel chk5 (listed' := #[true, true, true, true, true, true, true, true, true, true, true, true, true, true, true, true, true, true, true, true, true, true, true, true, true, true, true, true, true, true, true, true, true, true, true, true, true, true, true, true, true, true, true, true, true, true, true, true, true, true, true, true, true, true, false, false, false, false, false, false, false, false, false, false, false, false, false, false, false, false, false, false, false, false, false, false, false, false, false, false, false, false, false, false, false, false, false, false, false, false, false, false, false, false, false, false, false, false, false, false, false, false, false, false, false, false, false, false, false, false, false, false, false, false, false, false, false, false, false, false, false, false, false, false, false, false, false, false, false, false, false, false, false, false, false, false, false]) (by kernel_rfl) (fun _ _ d _ _ h => by cases d <;> exact h) (by assumption) ?_
  simp only [List.drop_succ_cons, List.drop_zero, List.take_succ_cons, List.take_zero]
  refine wpHeld_val (.pointer (some ⟨w.heap.size, 7, none⟩)) (by rfl) (fun w hS => by (try dsimp only at hS); go_simp) ?_
  simp only [Act.put, List.setIfInBounds_toArray, List.set_cons_zero, List.set_cons_succ]
  refine wpHeld_val (.int .u64 x7) (by rfl) (fun w hS => by (try dsimp only at hS); go_simp) ?_
  simp only [Act.put, List.setIfInBounds_toArray, List.set_cons_zero, List.set_cons_succ]
  refine wpHeld_val (.pointer (some ⟨w.heap.size, 5, none⟩)) (by rfl) (fun w hS => by (try dsimp only at hS); go_simp) ?_
  simp only [Act.put, List.setIfInBounds_toArray, List.set_cons_zero, List.set_cons_succ]
  refine wpHeld_val (.int .u64 x5) (by rfl) (fun w hS => by (try dsimp only at hS); go_simp) ?_
  simp only [Act.put, List.setIfInBounds_toArray, List.set_cons_zero, List.set_cons_succ]
  refine wpHeld_nil ?_
  refine held_step regOps (by kernel_rfl) 56 5 78 83 rfl (by kernel_rfl) noSel chk6 (listed' := #[true, true, true, true, true, true, true, true, true, true, true, true, true, true, true, true, true, true, true, true, true, true, true, true, true, true, true, true, true, true, true, true, true, true, true, true, true, true, true, true, true, true, true, true, true, true, true, true, true, true, true, true, true, true, false, false, true, true, true, true, true, false, false, false, false, false, false, false, false, false, false, false, false, false, false, false, false, false, false, false, false, false, false, false, false, false, false, false, false, false, false, false, false, false, false, false, false, false, false, false, false, false, false, false, false, false, false, false, false, false, false, false, false, false, false, false, false, false, false, false, false, false, false, false, false, false, false, false, false, false, false, false, false, false, false, false, false]) (by kernel_rfl) (fun _ _ d _ _ h => by cases d <;> exact h) (by assumption) ?_
  simp only [List.drop_succ_cons, List.drop_zero, List.take_succ_cons, List.take_zero]
  refine wpHeld_val (.pointer (some ⟨w.heap.size, 8, none⟩)) (by rfl) (fun w hS => by (try dsimp only at hS); go_simp) ?_
  simp only [Act.put, List.setIfInBounds_toArray, List.set_cons_zero, List.set_cons_succ]
  refine wpHeld_val (.int .u64 x8) (by rfl) (fun w hS => by (try dsimp only at hS); go_simp) ?_
  simp only [Act.put, List.setIfInBounds_toArray, List.set_cons_zero, List.set_cons_succ]
  refine wpHeld_val (.pointer (some ⟨w.heap.size, 7, none⟩)) (by rfl) (fun w hS => by (try dsimp only at hS); go_simp) ?_
  simp only [Act.put, List.setIfInBounds_toArray, List.set_cons_zero, List.set_cons_succ]
  refine wpHeld_val (.int .u64 x7) (by rfl) (fun w hS => by (try dsimp only at hS); go_simp) ?_
  simp only [Act.put, List.setIfInBounds_toArray, List.set_cons_zero, List.set_cons_succ]
  refine wpHeld_val (.bool p8) (by rfl) (fun w hS => by (try dsimp only at hS); go_simp) ?_
  simp only [Act.put, List.setIfInBounds_toArray, List.set_cons_zero, List.set_cons_succ]
  refine wpHeld_nil ?_
  refine held_step regOps (by kernel_rfl) 66 3 75 78 rfl (by kernel_rfl) noSel chk7 (listed' := #[true, true, true, true, true, true, true, true, true, true, true, true, true, true, true, true, true, true, true, true, true, true, true, true, true, true, true, true, true, true, true, true, true, true, true, true, true, true, true, true, true, true, true, true, true, true, true, true, true, true, true, true, true, true, false, false, true, true, true, true, true, false, false, false, false, false, true, true, true, false, false, false, false, false, false, false, false, false, false, false, false, false, false, false, false, false, false, false, false, false, false, false, false, false, false, false, false, false, false, false, false, false, false, false, false, false, false, false, false, false, false, false, false, false, false, false, false, false, false, false, false, false, false, false, false, false, false, false, false, false, false, false, false, false, false, false, false]) (by kernel_rfl) (fun _ _ d _ _ h => by cases d <;> exact h) (by assumption) ?_
  simp only [List.drop_succ_cons, List.drop_zero, List.take_succ_cons, List.take_zero]
  refine wpHeld_val (.pointer (some ⟨w.heap.size, 9, none⟩)) (by rfl) (fun w hS => by (try dsimp only at hS); go_simp) ?_
  simp only [Act.put, List.setIfInBounds_toArray, List.set_cons_zero, List.set_cons_succ]
  refine wpHeld_val (.int .i64 x9) (by rfl) (fun w hS => by (try dsimp only at hS); go_simp) ?_
  simp only [Act.put, List.setIfInBounds_toArray, List.set_cons_zero, List.set_cons_succ]
  refine wpHeld_val (.bool p9) (by rfl) (fun w hS => by (try dsimp only at hS); go_simp) ?_
  simp only [Act.put, List.setIfInBounds_toArray, List.set_cons_zero, List.set_cons_succ]
  refine wpHeld_nil ?_
  refine held_step regOps (by kernel_rfl) 74 3 72 75 rfl (by kernel_rfl) noSel chk8 (listed' := #[true, true, true, true, true, true, true, true, true, true, true, true, true, true, true, true, true, true, true, true, true, true, true, true, true, true, true, true, true, true, true, true, true, true, true, true, true, true, true, true, true, true, true, true, true, true, true, true, true, true, true, true, true, true, false, false, true, true, true, true, true, false, false, false, false, false, true, true, true, false, false, false, false, false, true, true, true, false, false, false, false, false, false, false, false, false, false, false, false, false, false, false, false, false, false, false, false, false, false, false, false, false, false, false, false, false, false, false, false, false, false, false, false, false, false, false, false, false, false, false, false, false, false, false, false, false, false, false, false, false, false, false, false, false, false, false, false]) (by kernel_rfl) (fun _ _ d _ _ h => by cases d <;> exact h) (by assumption) ?_
  simp only [List.drop_succ_cons, List.drop_zero, List.take_succ_cons, List.take_zero]
  refine wpHeld_val (.pointer (some ⟨w.heap.size, 10, none⟩)) (by rfl) (fun w hS => by (try dsimp only at hS); go_simp) ?_
  simp only [Act.put, List.setIfInBounds_toArray, List.set_cons_zero, List.set_cons_succ]
  refine wpHeld_val (.int .u64 x10) (by rfl) (fun w hS => by (try dsimp only at hS); go_simp) ?_
  simp only [Act.put, List.setIfInBounds_toArray, List.set_cons_zero, List.set_cons_succ]
  refine wpHeld_val (.bool p10) (by rfl) (fun w hS => by (try dsimp only at hS); go_simp) ?_
  simp only [Act.put, List.setIfInBounds_toArray, List.set_cons_zero, List.set_cons_succ]
  refine wpHeld_nil ?_
  refine held_step regOps (by kernel_rfl) 82 3 69 72 rfl (by kernel_rfl) noSel chk9 (listed' := #[true, true, true, true, true, true, true, true, true, true, true, true, true, true, true, true, true, true, true, true, true, true, true, true, true, true, true, true, true, true, true, true, true, true, true, true, true, true, true, true, true, true, true, true, true, true, true, true, true, true, true, true, true, true, false, false, true, true, true, true, true, false, false, false, false, false, true, true, true, false, false, false, false, false, true, true, true, false, false, false, false, false, true, true, true, false, false, false, false, false, false, false, false, false, false, false, false, false, false, false, false, false, false, false, false, false, false, false, false, false, false, false, false, false, false, false, false, false, false, false, false, false, false, false, false, false, false, false, false, false, false, false, false, false, false, false, false]) (by kernel_rfl) (fun _ _ d _ _ h => by cases d <;> exact h) (by assumption) ?_
  simp only [List.drop_succ_cons, List.drop_zero, List.take_succ_cons, List.take_zero]
  refine wpHeld_val (.pointer (some ⟨w.heap.size, 11, none⟩)) (by rfl) (fun w hS => by (try dsimp only at hS); go_simp) ?_
  simp only [Act.put, List.setIfInBounds_toArray, List.set_cons_zero, List.set_cons_succ]
  refine wpHeld_val (.int .u64 x11) (by rfl) (fun w hS => by (try dsimp only at hS); go_simp) ?_
  simp only [Act.put, List.setIfInBounds_toArray, List.set_cons_zero, List.set_cons_succ]
  refine wpHeld_val (.bool p11) (by rfl) (fun w hS => by (try dsimp only at hS); go_simp) ?_
  simp only [Act.put, List.setIfInBounds_toArray, List.set_cons_zero, List.set_cons_succ]
  refine wpHeld_nil ?_
  refine held_step regOps (by kernel_rfl) 90 5 64 69 rfl (by kernel_rfl) noSel chk10 (listed' := #[true, true, true, true, true, true, true, true, true, true, true, true, true, true, true, true, true, true, true, true, true, true, true, true, true, true, true, true, true, true, true, true, true, true, true, true, true, true, true, true, true, true, true, true, true, true, true, true, true, true, true, true, true, true, false, false, true, true, true, true, true, false, false, false, false, false, true, true, true, false, false, false, false, false, true, true, true, false, false, false, false, false, true, true, true, false, false, false, false, false, true, true, true, true, true, false, false, false, false, false, false, false, false, false, false, false, false, false, false, false, false, false, false, false, false, false, false, false, false, false, false, false, false, false, false, false, false, false, false, false, false, false, false, false, false, false, false]) (by kernel_rfl) (fun _ _ d _ _ h => by cases d <;> exact h) (by assumption) ?_
  simp only [List.drop_succ_cons, List.drop_zero, List.take_succ_cons, List.take_zero]
  refine wpHeld_val (.pointer (some ⟨w.heap.size, 12, none⟩)) (by rfl) (fun w hS => by (try dsimp only at hS); go_simp) ?_
  simp only [Act.put, List.setIfInBounds_toArray, List.set_cons_zero, List.set_cons_succ]
  refine wpHeld_val (.int .u64 x12) (by rfl) (fun w hS => by (try dsimp only at hS); go_simp) ?_
  simp only [Act.put, List.setIfInBounds_toArray, List.set_cons_zero, List.set_cons_succ]
  refine wpHeld_val (.pointer (some ⟨w.heap.size, 11, none⟩)) (by rfl) (fun w hS => by (try dsimp only at hS); go_simp) ?_
  simp only [Act.put, List.setIfInBounds_toArray, List.set_cons_zero, List.set_cons_succ]
  refine wpHeld_val (.int .u64 x11) (by rfl) (fun w hS => by (try dsimp only at hS); go_simp) ?_
  simp only [Act.put, List.setIfInBounds_toArray, List.set_cons_zero, List.set_cons_succ]
  refine wpHeld_val (.bool p12) (by rfl) (fun w hS => by (try dsimp only at hS); go_simp) ?_
  simp only [Act.put, List.setIfInBounds_toArray, List.set_cons_zero, List.set_cons_succ]
  refine wpHeld_nil ?_
  refine held_step regOps (by kernel_rfl) 100 5 59 64 rfl (by kernel_rfl) noSel chk11 (listed' := #[true, true, true, true, true, true, true, true, true, true, true, true, true, true, true, true, true, true, true, true, true, true, true, true, true, true, true, true, true, true, true, true, true, true, true, true, true, true, true, true, true, true, true, true, true, true, true, true, true, true, true, true, true, true, false, false, true, true, true, true, true, false, false, false, false, false, true, true, true, false, false, false, false, false, true, true, true, false, false, false, false, false, true, true, true, false, false, false, false, false, true, true, true, true, true, false, false, false, false, false, true, true, true, true, true, false, false, false, false, false, false, false, false, false, false, false, false, false, false, false, false, false, false, false, false, false, false, false, false, false, false, false, false, false, false, false, false]) (by kernel_rfl) (fun _ _ d _ _ h => by cases d <;> exact h) (by assumption) ?_
  simp only [List.drop_succ_cons, List.drop_zero, List.take_succ_cons, List.take_zero]
  refine wpHeld_val (.pointer (some ⟨w.heap.size, 13, none⟩)) (by rfl) (fun w hS => by (try dsimp only at hS); go_simp) ?_
  simp only [Act.put, List.setIfInBounds_toArray, List.set_cons_zero, List.set_cons_succ]
  refine wpHeld_val (.int .u64 x13) (by rfl) (fun w hS => by (try dsimp only at hS); go_simp) ?_
  simp only [Act.put, List.setIfInBounds_toArray, List.set_cons_zero, List.set_cons_succ]
  refine wpHeld_val (.pointer (some ⟨w.heap.size, 5, none⟩)) (by rfl) (fun w hS => by (try dsimp only at hS); go_simp) ?_
  simp only [Act.put, List.setIfInBounds_toArray, List.set_cons_zero, List.set_cons_succ]
  refine wpHeld_val (.int .u64 x5) (by rfl) (fun w hS => by (try dsimp only at hS); go_simp) ?_
  simp only [Act.put, List.setIfInBounds_toArray, List.set_cons_zero, List.set_cons_succ]
  refine wpHeld_val (.bool p13) (by rfl) (fun w hS => by (try dsimp only at hS); go_simp) ?_
  simp only [Act.put, List.setIfInBounds_toArray, List.set_cons_zero, List.set_cons_succ]
  refine wpHeld_nil ?_
  refine held_step regOps (by kernel_rfl) 110 3 56 59 rfl (by kernel_rfl) noSel chk12 (listed' := #[true, true, true, true, true, true, true, true, true, true, true, true, true, true, true, true, true, true, true, true, true, true, true, true, true, true, true, true, true, true, true, true, true, true, true, true, true, true, true, true, true, true, true, true, true, true, true, true, true, true, true, true, true, true, false, false, true, true, true, true, true, false, false, false, false, false, true, true, true, false, false, false, false, false, true, true, true, false, false, false, false, false, true, true, true, false, false, false, false, false, true, true, true, true, true, false, false, false, false, false, true, true, true, true, true, false, false, false, false, false, true, true, true, false, false, false, false, false, false, false, false, false, false, false, false, false, false, false, false, false, false, false, false, false, false, false, false]) (by kernel_rfl) (fun _ _ d _ _ h => by cases d <;> exact h) (by assumption) ?_
  simp only [List.drop_succ_cons, List.drop_zero, List.take_succ_cons, List.take_zero]
  refine wpHeld_val (.pointer (some ⟨w.heap.size, 14, none⟩)) (by rfl) (fun w hS => by (try dsimp only at hS); go_simp) ?_
  simp only [Act.put, List.setIfInBounds_toArray, List.set_cons_zero, List.set_cons_succ]
  refine wpHeld_val (.int .u64 x14) (by rfl) (fun w hS => by (try dsimp only at hS); go_simp) ?_
  simp only [Act.put, List.setIfInBounds_toArray, List.set_cons_zero, List.set_cons_succ]
  refine wpHeld_val (.bool p14) (by rfl) (fun w hS => by (try dsimp only at hS); go_simp) ?_
  simp only [Act.put, List.setIfInBounds_toArray, List.set_cons_zero, List.set_cons_succ]
  refine wpHeld_nil ?_
  refine held_step regOps (by kernel_rfl) 118 3 53 56 rfl (by kernel_rfl) noSel chk13 (listed' := #[true, true, true, true, true, true, true, true, true, true, true, true, true, true, true, true, true, true, true, true, true, true, true, true, true, true, true, true, true, true, true, true, true, true, true, true, true, true, true, true, true, true, true, true, true, true, true, true, true, true, true, true, true, true, false, false, true, true, true, true, true, false, false, false, false, false, true, true, true, false, false, false, false, false, true, true, true, false, false, false, false, false, true, true, true, false, false, false, false, false, true, true, true, true, true, false, false, false, false, false, true, true, true, true, true, false, false, false, false, false, true, true, true, false, false, false, false, false, true, true, true, false, false, false, false, false, false, false, false, false, false, false, false, false, false, false, false]) (by kernel_rfl) (fun _ _ d _ _ h => by cases d <;> exact h) (by assumption) ?_
  simp only [List.drop_succ_cons, List.drop_zero, List.take_succ_cons, List.take_zero]
  refine wpHeld_val (.pointer (some ⟨w.heap.size, 15, none⟩)) (by rfl) (fun w hS => by (try dsimp only at hS); go_simp) ?_
  simp only [Act.put, List.setIfInBounds_toArray, List.set_cons_zero, List.set_cons_succ]
  refine wpHeld_val (.int .i64 x15) (by rfl) (fun w hS => by (try dsimp only at hS); go_simp) ?_
  simp only [Act.put, List.setIfInBounds_toArray, List.set_cons_zero, List.set_cons_succ]
  refine wpHeld_val (.bool p15) (by rfl) (fun w hS => by (try dsimp only at hS); go_simp) ?_
  simp only [Act.put, List.setIfInBounds_toArray, List.set_cons_zero, List.set_cons_succ]
  refine wpHeld_nil ?_
  refine held_step regOps (by kernel_rfl) 126 3 50 53 rfl (by kernel_rfl) noSel chk14 (listed' := #[true, true, true, true, true, true, true, true, true, true, true, true, true, true, true, true, true, true, true, true, true, true, true, true, true, true, true, true, true, true, true, true, true, true, true, true, true, true, true, true, true, true, true, true, true, true, true, true, true, true, true, true, true, true, false, false, true, true, true, true, true, false, false, false, false, false, true, true, true, false, false, false, false, false, true, true, true, false, false, false, false, false, true, true, true, false, false, false, false, false, true, true, true, true, true, false, false, false, false, false, true, true, true, true, true, false, false, false, false, false, true, true, true, false, false, false, false, false, true, true, true, false, false, false, false, false, true, true, true, false, false, false, false, false, false, false, false]) (by kernel_rfl) (fun _ _ d _ _ h => by cases d <;> exact h) (by assumption) ?_
  simp only [List.drop_succ_cons, List.drop_zero, List.take_succ_cons, List.take_zero]
  refine wpHeld_val (.pointer (some ⟨w.heap.size, 16, none⟩)) (by rfl) (fun w hS => by (try dsimp only at hS); go_simp) ?_
  simp only [Act.put, List.setIfInBounds_toArray, List.set_cons_zero, List.set_cons_succ]
  refine wpHeld_val (.int .u64 x16) (by rfl) (fun w hS => by (try dsimp only at hS); go_simp) ?_
  simp only [Act.put, List.setIfInBounds_toArray, List.set_cons_zero, List.set_cons_succ]
  refine wpHeld_val (.bool p16) (by rfl) (fun w hS => by (try dsimp only at hS); go_simp) ?_
  simp only [Act.put, List.setIfInBounds_toArray, List.set_cons_zero, List.set_cons_succ]
  refine wpHeld_nil ?_
  refine wpAnyH_ready (rs := [54, 135]) ((congrArg (fun l => Region.ready .any (List.toArray l) _) (by kernel_rfl : _ = regOps)).trans chk15) (by simp) ?_
  refine AllReadyH.cons (o := _) rfl (fun K hK => ?_) (AllReadyH.cons (o := _) rfl (fun K hK => ?_) AllReadyH.nil)
  · go_simp
    refine (rMul 2 x5 ⟨by omega, by omega⟩ H5.out _).mono ?_; rintro e w' ⟨rfl, rfl⟩
    go_simp
    refine hK.out _ _ (by first | assumption | go_simp | go_keep) (fun hHeld => ?_)
    clear hK K
    refine held_as (l' := #[true, true, true, true, true, true, true, true, true, true, true, true, true, true, true, true, true, true, true, true, true, true, true, true, true, true, true, true, true, true, true, true, true, true, true, true, true, true, true, true, true, true, true, true, true, true, true, true, true, true, true, true, true, true, true, false, true, true, true, true, true, false, false, false, false, false, true, true, true, false, false, false, false, false, true, true, true, false, false, false, false, false, true, true, true, false, false, false, false, false, true, true, true, true, true, false, false, false, false, false, true, true, true, true, true, false, false, false, false, false, true, true, true, false, false, false, false, false, true, true, true, false, false, false, false, false, true, true, true, false, false, false, false, false, false, false, false]) (by kernel_rfl) ?_
    refine held_step regOps (by kernel_rfl) 55 1 48 49 rfl (by kernel_rfl) noSel chk16 (listed' := #[true, true, true, true, true, true, true, true, true, true, true, true, true, true, true, true, true, true, true, true, true, true, true, true, true, true, true, true, true, true, true, true, true, true, true, true, true, true, true, true, true, true, true, true, true, true, true, true, true, true, true, true, true, true, true, true, true, true, true, true, true, false, false, false, false, false, true, true, true, false, false, false, false, false, true, true, true, false, false, false, false, false, true, true, true, false, false, false, false, false, true, true, true, true, true, false, false, false, false, false, true, true, true, true, true, false, false, false, false, false, true, true, true, false, false, false, false, false, true, true, true, false, false, false, false, false, true, true, true, false, false, false, false, false, false, false, false]) (by kernel_rfl) (fun _ _ d _ _ h => by cases d <;> exact h) (by assumption) ?_
    simp only [List.drop_succ_cons, List.drop_zero, List.take_succ_cons, List.take_zero]
    refine wpHeld_val (.bool b7) (by rfl) (fun w hS => by (try dsimp only at hS); go_simp) ?_
    simp only [Act.put, List.setIfInBounds_toArray, List.set_cons_zero, List.set_cons_succ]
    refine wpHeld_nil ?_
    refine held_step regOps (by kernel_rfl) 61 5 43 48 rfl (by kernel_rfl) noSel chk17 (listed' := #[true, true, true, true, true, true, true, true, true, true, true, true, true, true, true, true, true, true, true, true, true, true, true, true, true, true, true, true, true, true, true, true, true, true, true, true, true, true, true, true, true, true, true, true, true, true, true, true, true, true, true, true, true, true, true, true, true, true, true, true, true, true, true, true, true, true, true, true, true, false, false, false, false, false, true, true, true, false, false, false, false, false, true, true, true, false, false, false, false, false, true, true, true, true, true, false, false, false, false, false, true, true, true, true, true, false, false, false, false, false, true, true, true, false, false, false, false, false, true, true, true, false, false, false, false, false, true, true, true, false, false, false, false, false, false, false, false]) (by kernel_rfl) (fun _ _ d _ _ h => by cases d <;> exact h) (by assumption) ?_
    simp only [List.drop_succ_cons, List.drop_zero, List.take_succ_cons, List.take_zero]
    refine wpHeld_val (.bool p8) (by rfl) (fun w hS => by (try dsimp only at hS); go_simp) ?_
    simp only [Act.put, List.setIfInBounds_toArray, List.set_cons_zero, List.set_cons_succ]
    refine wpHeld_guard p8 (.pointer (some ⟨w.heap.size, 8, none⟩)) (by go_simp) (fun hp w hS => by (try dsimp only at hS); (try simp only [hp]); go_simp) ?_
    simp only [Act.put, List.setIfInBounds_toArray, List.set_cons_zero, List.set_cons_succ]
    refine wpHeld_guard p8 (.int .u64 x8) (by go_simp) (fun hp w hS => by (try dsimp only at hS); (try simp only [hp]); go_simp) ?_
    simp only [Act.put, List.setIfInBounds_toArray, List.set_cons_zero, List.set_cons_succ]
    refine wpHeld_guard p8 (.bool q8) (by go_simp) (fun hp w hS => by (try dsimp only at hS); (try simp only [hp]); go_simp) ?_
    simp only [Act.put, List.setIfInBounds_toArray, List.set_cons_zero, List.set_cons_succ]
    refine wpHeld_val (.bool b8) (by rfl) (fun w hS => by (try dsimp only at hS); go_simp) ?_
    simp only [Act.put, List.setIfInBounds_toArray, List.set_cons_zero, List.set_cons_succ]
    refine wpHeld_nil ?_
    refine held_step regOps (by kernel_rfl) 69 5 38 43 rfl (by kernel_rfl) noSel chk18 (listed' := #[true, true, true, true, true, true, true, true, true, true, true, true, true, true, true, true, true, true, true, true, true, true, true, true, true, true, true, true, true, true, true, true, true, true, true, true, true, true, true, true, true, true, true, true, true, true, true, true, true, true, true, true, true, true, true, true, true, true, true, true, true, true, true, true, true, true, true, true, true, true, true, true, true, true, true, true, true, false, false, false, false, false, true, true, true, false, false, false, false, false, true, true, true, true, true, false, false, false, false, false, true, true, true, true, true, false, false, false, false, false, true, true, true, false, false, false, false, false, true, true, true, false, false, false, false, false, true, true, true, false, false, false, false, false, false, false, false]) (by kernel_rfl) (fun _ _ d _ _ h => by cases d <;> exact h) (by assumption) ?_
    simp only [List.drop_succ_cons, List.drop_zero, List.take_succ_cons, List.take_zero]
    refine wpHeld_val (.bool p9) (by rfl) (fun w hS => by (try dsimp only at hS); go_simp) ?_
    simp only [Act.put, List.setIfInBounds_toArray, List.set_cons_zero, List.set_cons_succ]
    refine wpHeld_guard (!p9) (.pointer (some ⟨w.heap.size, 9, none⟩)) (by go_simp) (fun hp w hS => by (try dsimp only at hS); (try simp only [hp]); go_simp) ?_
    simp only [Act.put, List.setIfInBounds_toArray, List.set_cons_zero, List.set_cons_succ]
    refine wpHeld_guard (!p9) (.int .i64 x9) (by go_simp) (fun hp w hS => by (try dsimp only at hS); (try simp only [hp]); go_simp) ?_
    simp only [Act.put, List.setIfInBounds_toArray, List.set_cons_zero, List.set_cons_succ]
    refine wpHeld_guard (!p9) (.bool q9) (by go_simp) (fun hp w hS => by (try dsimp only at hS); (try simp only [hp]); go_simp) ?_
    simp only [Act.put, List.setIfInBounds_toArray, List.set_cons_zero, List.set_cons_succ]
    refine wpHeld_val (.bool b9) (by rfl) (fun w hS => by (try dsimp only at hS); go_simp) ?_
    simp only [Act.put, List.setIfInBounds_toArray, List.set_cons_zero, List.set_cons_succ]
    refine wpHeld_nil ?_
    refine held_step regOps (by kernel_rfl) 77 5 33 38 rfl (by kernel_rfl) noSel chk19 (listed' := #[true, true, true, true, true, true, true, true, true, true, true, true, true, true, true, true, true, true, true, true, true, true, true, true, true, true, true, true, true, true, true, true, true, true, true, true, true, true, true, true, true, true, true, true, true, true, true, true, true, true, true, true, true, true, true, true, true, true, true, true, true, true, true, true, true, true, true, true, true, true, true, true, true, true, true, true, true, true, true, true, true, true, true, true, true, false, false, false, false, false, true, true, true, true, true, false, false, false, false, false, true, true, true, true, true, false, false, false, false, false, true, true, true, false, false, false, false, false, true, true, true, false, false, false, false, false, true, true, true, false, false, false, false, false, false, false, false]) (by kernel_rfl) (fun _ _ d _ _ h => by cases d <;> exact h) (by assumption) ?_
    simp only [List.drop_succ_cons, List.drop_zero, List.take_succ_cons, List.take_zero]
    refine wpHeld_val (.bool p10) (by rfl) (fun w hS => by (try dsimp only at hS); go_simp) ?_
    simp only [Act.put, List.setIfInBounds_toArray, List.set_cons_zero, List.set_cons_succ]
    refine wpHeld_guard p10 (.pointer (some ⟨w.heap.size, 10, none⟩)) (by go_simp) (fun hp w hS => by (try dsimp only at hS); (try simp only [hp]); go_simp) ?_
    simp only [Act.put, List.setIfInBounds_toArray, List.set_cons_zero, List.set_cons_succ]
    refine wpHeld_guard p10 (.int .u64 x10) (by go_simp) (fun hp w hS => by (try dsimp only at hS); (try simp only [hp]); go_simp) ?_
    simp only [Act.put, List.setIfInBounds_toArray, List.set_cons_zero, List.set_cons_succ]
    refine wpHeld_guard p10 (.bool q10) (by go_simp) (fun hp w hS => by (try dsimp only at hS); (try simp only [hp]); go_simp) ?_
    simp only [Act.put, List.setIfInBounds_toArray, List.set_cons_zero, List.set_cons_succ]
    refine wpHeld_val (.bool b10) (by rfl) (fun w hS => by (try dsimp only at hS); go_simp) ?_
    simp only [Act.put, List.setIfInBounds_toArray, List.set_cons_zero, List.set_cons_succ]
    refine wpHeld_nil ?_
    refine held_step regOps (by kernel_rfl) 85 5 28 33 rfl (by kernel_rfl) noSel chk20 (listed' := #[true, true, true, true, true, true, true, true, true, true, true, true, true, true, true, true, true, true, true, true, true, true, true, true, true, true, true, true, true, true, true, true, true, true, true, true, true, true, true, true, true, true, true, true, true, true, true, true, true, true, true, true, true, true, true, true, true, true, true, true, true, true, true, true, true, true, true, true, true, true, true, true, true, true, true, true, true, true, true, true, true, true, true, true, true, true, true, true, true, true, true, true, true, true, true, false, false, false, false, false, true, true, true, true, true, false, false, false, false, false, true, true, true, false, false, false, false, false, true, true, true, false, false, false, false, false, true, true, true, false, false, false, false, false, false, false, false]) (by kernel_rfl) (fun _ _ d _ _ h => by cases d <;> exact h) (by assumption) ?_
    simp only [List.drop_succ_cons, List.drop_zero, List.take_succ_cons, List.take_zero]
    refine wpHeld_val (.bool p11) (by rfl) (fun w hS => by (try dsimp only at hS); go_simp) ?_
    simp only [Act.put, List.setIfInBounds_toArray, List.set_cons_zero, List.set_cons_succ]
    refine wpHeld_guard p11 (.pointer (some ⟨w.heap.size, 11, none⟩)) (by go_simp) (fun hp w hS => by (try dsimp only at hS); (try simp only [hp]); go_simp) ?_
    simp only [Act.put, List.setIfInBounds_toArray, List.set_cons_zero, List.set_cons_succ]
    refine wpHeld_guard p11 (.int .u64 x11) (by go_simp) (fun hp w hS => by (try dsimp only at hS); (try simp only [hp]); go_simp) ?_
    simp only [Act.put, List.setIfInBounds_toArray, List.set_cons_zero, List.set_cons_succ]
    refine wpHeld_guard p11 (.bool q11) (by go_simp) (fun hp w hS => by (try dsimp only at hS); (try simp only [hp]); go_simp) ?_
    simp only [Act.put, List.setIfInBounds_toArray, List.set_cons_zero, List.set_cons_succ]
    refine wpHeld_val (.bool b11) (by rfl) (fun w hS => by (try dsimp only at hS); go_simp) ?_
    simp only [Act.put, List.setIfInBounds_toArray, List.set_cons_zero, List.set_cons_succ]
    refine wpHeld_nil ?_
    refine held_step regOps (by kernel_rfl) 95 5 23 28 rfl (by kernel_rfl) noSel chk21 (listed' := #[true, true, true, true, true, true, true, true, true, true, true, true, true, true, true, true, true, true, true, true, true, true, true, true, true, true, true, true, true, true, true, true, true, true, true, true, true, true, true, true, true, true, true, true, true, true, true, true, true, true, true, true, true, true, true, true, true, true, true, true, true, true, true, true, true, true, true, true, true, true, true, true, true, true, true, true, true, true, true, true, true, true, true, true, true, true, true, true, true, true, true, true, true, true, true, true, true, true, true, true, true, true, true, true, true, false, false, false, false, false, true, true, true, false, false, false, false, false, true, true, true, false, false, false, false, false, true, true, true, false, false, false, false, false, false, false, false]) (by kernel_rfl) (fun _ _ d _ _ h => by cases d <;> exact h) (by assumption) ?_
    simp only [List.drop_succ_cons, List.drop_zero, List.take_succ_cons, List.take_zero]
    refine wpHeld_val (.bool p12) (by rfl) (fun w hS => by (try dsimp only at hS); go_simp) ?_
    simp only [Act.put, List.setIfInBounds_toArray, List.set_cons_zero, List.set_cons_succ]
    refine wpHeld_guard p12 (.pointer (some ⟨w.heap.size, 12, none⟩)) (by go_simp) (fun hp w hS => by (try dsimp only at hS); (try simp only [hp]); go_simp) ?_
    simp only [Act.put, List.setIfInBounds_toArray, List.set_cons_zero, List.set_cons_succ]
    refine wpHeld_guard p12 (.int .u64 x12) (by go_simp) (fun hp w hS => by (try dsimp only at hS); (try simp only [hp]); go_simp) ?_
    simp only [Act.put, List.setIfInBounds_toArray, List.set_cons_zero, List.set_cons_succ]
    refine wpHeld_guard p12 (.bool q12) (by go_simp) (fun hp w hS => by (try dsimp only at hS); (try simp only [hp]); go_simp) ?_
    simp only [Act.put, List.setIfInBounds_toArray, List.set_cons_zero, List.set_cons_succ]
    refine wpHeld_val (.bool b12) (by rfl) (fun w hS => by (try dsimp only at hS); go_simp) ?_
    simp only [Act.put, List.setIfInBounds_toArray, List.set_cons_zero, List.set_cons_succ]
    refine wpHeld_nil ?_
    refine held_step regOps (by kernel_rfl) 105 5 18 23 rfl (by kernel_rfl) noSel chk22 (listed' := #[true, true, true, true, true, true, true, true, true, true, true, true, true, true, true, true, true, true, true, true, true, true, true, true, true, true, true, true, true, true, true, true, true, true, true, true, true, true, true, true, true, true, true, true, true, true, true, true, true, true, true, true, true, true, true, true, true, true, true, true, true, true, true, true, true, true, true, true, true, true, true, true, true, true, true, true, true, true, true, true, true, true, true, true, true, true, true, true, true, true, true, true, true, true, true, true, true, true, true, true, true, true, true, true, true, true, true, true, true, true, true, true, true, false, false, false, false, false, true, true, true, false, false, false, false, false, true, true, true, false, false, false, false, false, false, false, false]) (by kernel_rfl) (fun _ _ d _ _ h => by cases d <;> exact h) (by assumption) ?_
    simp only [List.drop_succ_cons, List.drop_zero, List.take_succ_cons, List.take_zero]
    refine wpHeld_val (.bool p13) (by rfl) (fun w hS => by (try dsimp only at hS); go_simp) ?_
    simp only [Act.put, List.setIfInBounds_toArray, List.set_cons_zero, List.set_cons_succ]
    refine wpHeld_guard p13 (.pointer (some ⟨w.heap.size, 13, none⟩)) (by go_simp) (fun hp w hS => by (try dsimp only at hS); (try simp only [hp]); go_simp) ?_
    simp only [Act.put, List.setIfInBounds_toArray, List.set_cons_zero, List.set_cons_succ]
    refine wpHeld_guard p13 (.int .u64 x13) (by go_simp) (fun hp w hS => by (try dsimp only at hS); (try simp only [hp]); go_simp) ?_
    simp only [Act.put, List.setIfInBounds_toArray, List.set_cons_zero, List.set_cons_succ]
    refine wpHeld_guard p13 (.bool q13) (by go_simp) (fun hp w hS => by (try dsimp only at hS); (try simp only [hp]); go_simp) ?_
    simp only [Act.put, List.setIfInBounds_toArray, List.set_cons_zero, List.set_cons_succ]
    refine wpHeld_val (.bool b13) (by rfl) (fun w hS => by (try dsimp only at hS); go_simp) ?_
    simp only [Act.put, List.setIfInBounds_toArray, List.set_cons_zero, List.set_cons_succ]
    refine wpHeld_nil ?_
    refine held_step regOps (by kernel_rfl) 113 5 13 18 rfl (by kernel_rfl) noSel chk23 (listed' := #[true, true, true, true, true, true, true, true, true, true, true, true, true, true, true, true, true, true, true, true, true, true, true, true, true, true, true, true, true, true, true, true, true, true, true, true, true, true, true, true, true, true, true, true, true, true, true, true, true, true, true, true, true, true, true, true, true, true, true, true, true, true, true, true, true, true, true, true, true, true, true, true, true, true, true, true, true, true, true, true, true, true, true, true, true, true, true, true, true, true, true, true, true, true, true, true, true, true, true, true, true, true, true, true, true, true, true, true, true, true, true, true, true, true, true, true, true, true, true, true, true, false, false, false, false, false, true, true, true, false, false, false, false, false, false, false, false]) (by kernel_rfl) (fun _ _ d _ _ h => by cases d <;> exact h) (by assumption) ?_
    simp only [List.drop_succ_cons, List.drop_zero, List.take_succ_cons, List.take_zero]
    refine wpHeld_val (.bool p14) (by rfl) (fun w hS => by (try dsimp only at hS); go_simp) ?_
    simp only [Act.put, List.setIfInBounds_toArray, List.set_cons_zero, List.set_cons_succ]
    refine wpHeld_guard p14 (.pointer (some ⟨w.heap.size, 14, none⟩)) (by go_simp) (fun hp w hS => by (try dsimp only at hS); (try simp only [hp]); go_simp) ?_
    simp only [Act.put, List.setIfInBounds_toArray, List.set_cons_zero, List.set_cons_succ]
    refine wpHeld_guard p14 (.int .u64 x14) (by go_simp) (fun hp w hS => by (try dsimp only at hS); (try simp only [hp]); go_simp) ?_
    simp only [Act.put, List.setIfInBounds_toArray, List.set_cons_zero, List.set_cons_succ]
    refine wpHeld_guard p14 (.bool q14) (by go_simp) (fun hp w hS => by (try dsimp only at hS); (try simp only [hp]); go_simp) ?_
    simp only [Act.put, List.setIfInBounds_toArray, List.set_cons_zero, List.set_cons_succ]
    refine wpHeld_val (.bool b14) (by rfl) (fun w hS => by (try dsimp only at hS); go_simp) ?_
    simp only [Act.put, List.setIfInBounds_toArray, List.set_cons_zero, List.set_cons_succ]
    refine wpHeld_nil ?_
    refine held_step regOps (by kernel_rfl) 121 5 8 13 rfl (by kernel_rfl) noSel chk24 (listed' := #[true, true, true, true, true, true, true, true, true, true, true, true, true, true, true, true, true, true, true, true, true, true, true, true, true, true, true, true, true, true, true, true, true, true, true, true, true, true, true, true, true, true, true, true, true, true, true, true, true, true, true, true, true, true, true, true, true, true, true, true, true, true, true, true, true, true, true, true, true, true, true, true, true, true, true, true, true, true, true, true, true, true, true, true, true, true, true, true, true, true, true, true, true, true, true, true, true, true, true, true, true, true, true, true, true, true, true, true, true, true, true, true, true, true, true, true, true, true, true, true, true, true, true, true, true, true, true, true, true, false, false, false, false, false, false, false, false]) (by kernel_rfl) (fun _ _ d _ _ h => by cases d <;> exact h) (by assumption) ?_
    simp only [List.drop_succ_cons, List.drop_zero, List.take_succ_cons, List.take_zero]
    refine wpHeld_val (.bool p15) (by rfl) (fun w hS => by (try dsimp only at hS); go_simp) ?_
    simp only [Act.put, List.setIfInBounds_toArray, List.set_cons_zero, List.set_cons_succ]
    refine wpHeld_guard p15 (.pointer (some ⟨w.heap.size, 15, none⟩)) (by go_simp) (fun hp w hS => by (try dsimp only at hS); (try simp only [hp]); go_simp) ?_
    simp only [Act.put, List.setIfInBounds_toArray, List.set_cons_zero, List.set_cons_succ]
    refine wpHeld_guard p15 (.int .i64 x15) (by go_simp) (fun hp w hS => by (try dsimp only at hS); (try simp only [hp]); go_simp) ?_
    simp only [Act.put, List.setIfInBounds_toArray, List.set_cons_zero, List.set_cons_succ]
    refine wpHeld_guard p15 (.bool q15) (by go_simp) (fun hp w hS => by (try dsimp only at hS); (try simp only [hp]); go_simp) ?_
    simp only [Act.put, List.setIfInBounds_toArray, List.set_cons_zero, List.set_cons_succ]
    refine wpHeld_val (.bool b15) (by rfl) (fun w hS => by (try dsimp only at hS); go_simp) ?_
    simp only [Act.put, List.setIfInBounds_toArray, List.set_cons_zero, List.set_cons_succ]
    refine wpHeld_nil ?_
    refine held_step regOps (by kernel_rfl) 129 5 3 8 rfl (by kernel_rfl) noSel chk25 (listed' := #[true, true, true, true, true, true, true, true, true, true, true, true, true, true, true, true, true, true, true, true, true, true, true, true, true, true, true, true, true, true, true, true, true, true, true, true, true, true, true, true, true, true, true, true, true, true, true, true, true, true, true, true, true, true, true, true, true, true, true, true, true, true, true, true, true, true, true, true, true, true, true, true, true, true, true, true, true, true, true, true, true, true, true, true, true, true, true, true, true, true, true, true, true, true, true, true, true, true, true, true, true, true, true, true, true, true, true, true, true, true, true, true, true, true, true, true, true, true, true, true, true, true, true, true, true, true, true, true, true, true, true, true, true, true, false, false, false]) (by kernel_rfl) (fun _ _ d _ _ h => by cases d <;> exact h) (by assumption) ?_
    simp only [List.drop_succ_cons, List.drop_zero, List.take_succ_cons, List.take_zero]
    refine wpHeld_val (.bool p16) (by rfl) (fun w hS => by (try dsimp only at hS); go_simp) ?_
    simp only [Act.put, List.setIfInBounds_toArray, List.set_cons_zero, List.set_cons_succ]
    refine wpHeld_guard p16 (.pointer (some ⟨w.heap.size, 16, none⟩)) (by go_simp) (fun hp w hS => by (try dsimp only at hS); (try simp only [hp]); go_simp) ?_
    simp only [Act.put, List.setIfInBounds_toArray, List.set_cons_zero, List.set_cons_succ]
    refine wpHeld_guard p16 (.int .u64 x16) (by go_simp) (fun hp w hS => by (try dsimp only at hS); (try simp only [hp]); go_simp) ?_
    simp only [Act.put, List.setIfInBounds_toArray, List.set_cons_zero, List.set_cons_succ]
    refine wpHeld_guard p16 (.bool q16) (by go_simp) (fun hp w hS => by (try dsimp only at hS); (try simp only [hp]); go_simp) ?_
    simp only [Act.put, List.setIfInBounds_toArray, List.set_cons_zero, List.set_cons_succ]
    refine wpHeld_val (.bool b16) (by rfl) (fun w hS => by (try dsimp only at hS); go_simp) ?_
    simp only [Act.put, List.setIfInBounds_toArray, List.set_cons_zero, List.set_cons_succ]
    refine wpHeld_nil ?_
    refine held_step regOps (by kernel_rfl) 134 1 2 3 rfl (by kernel_rfl) noSel chk26 (listed' := #[true, true, true, true, true, true, true, true, true, true, true, true, true, true, true, true, true, true, true, true, true, true, true, true, true, true, true, true, true, true, true, true, true, true, true, true, true, true, true, true, true, true, true, true, true, true, true, true, true, true, true, true, true, true, true, true, true, true, true, true, true, true, true, true, true, true, true, true, true, true, true, true, true, true, true, true, true, true, true, true, true, true, true, true, true, true, true, true, true, true, true, true, true, true, true, true, true, true, true, true, true, true, true, true, true, true, true, true, true, true, true, true, true, true, true, true, true, true, true, true, true, true, true, true, true, true, true, true, true, true, true, true, true, true, true, false, false]) (by kernel_rfl) (fun _ _ d _ _ h => by cases d <;> exact h) (by assumption) ?_
    simp only [List.drop_succ_cons, List.drop_zero, List.take_succ_cons, List.take_zero]
    refine wpHeld_val (.agg #[.bool b0, .bool b1, .bool b2, .bool b3, .bool b4, .bool b5, .bool b6, .bool b7, .bool b8, .bool b9, .bool b10, .bool b11, .bool b12, .bool b13, .bool b14, .bool b15, .bool b16]) (by rfl) (fun w hS => by (try dsimp only at hS); go_simp) ?_
    simp only [Act.put, List.setIfInBounds_toArray, List.set_cons_zero, List.set_cons_succ]
    refine wpHeld_nil ?_
    refine wpAnyH_ready (rs := [135]) ((congrArg (fun l => Region.ready .any (List.toArray l) _) (by kernel_rfl : _ = regOps)).trans chk27) (by simp) ?_
    refine AllReadyH.cons (o := _) rfl (fun K hK => ?_) AllReadyH.nil
    go_simp
    refine hK.out _ _ (by first | go_simp | go_keep) (fun hHeld => ?_)
    clear hK K
    refine held_as (l' := #[true, true, true, true, true, true, true, true, true, true, true, true, true, true, true, true, true, true, true, true, true, true, true, true, true, true, true, true, true, true, true, true, true, true, true, true, true, true, true, true, true, true, true, true, true, true, true, true, true, true, true, true, true, true, true, true, true, true, true, true, true, true, true, true, true, true, true, true, true, true, true, true, true, true, true, true, true, true, true, true, true, true, true, true, true, true, true, true, true, true, true, true, true, true, true, true, true, true, true, true, true, true, true, true, true, true, true, true, true, true, true, true, true, true, true, true, true, true, true, true, true, true, true, true, true, true, true, true, true, true, true, true, true, true, true, true, false]) (by kernel_rfl) ?_
    refine wpAnyH_ready (rs := [136]) ((congrArg (fun l => Region.ready .any (List.toArray l) _) (by kernel_rfl : _ = regOps)).trans chk28) (by simp) ?_
    refine AllReadyH.cons (o := _) rfl (fun K hK => ?_) AllReadyH.nil
    rw [if_pos (by rfl)]
    refine wp_store_end 149 (.tmp 3) (.tmp 139) rfl rfl (w.heap.size + 1) #[.bool b0, .bool b1, .bool b2, .bool b3, .bool b4, .bool b5, .bool b6, .bool b7, .bool b8, .bool b9, .bool b10, .bool b11, .bool b12, .bool b13, .bool b14, .bool b15, .bool b16] rfl rfl 149 #[.bool false, .bool false, .bool false, .bool false, .bool false, .bool false, .bool false, .bool false, .bool false, .bool false, .bool false, .bool false, .bool false, .bool false, .bool false, .bool false, .bool false] (top_heap _ _ _ _) (by kernel_rfl) rfl (by first | kernel_rfl | simp [Value.oneCell'] | rfl) ?_
    rw [setRow_top]
    refine hK.out _ _ (by first | go_simp | go_keep) (fun hHeld => ?_)
    clear hK K
    refine wpAnyH_done (by kernel_rfl) ?_ _
    generalize (if p0 = true then Value.pointer (some ⟨w.heap.size, 0, none⟩) else undef) = u9
    generalize (if p0 = true then Value.int .i64 x0 else undef) = u10
    generalize (if p0 = true then Value.bool q0 else undef) = u11
    generalize (if p2 = true then Value.pointer (some ⟨w.heap.size, 2, none⟩) else undef) = u20
    generalize (if p2 = true then Value.int .i64 x2 else undef) = u21
    generalize (if p2 = true then Value.bool q2 else undef) = u22
    generalize (if p4 = true then Value.pointer (some ⟨w.heap.size, 4, none⟩) else undef) = u31
    generalize (if p4 = true then Value.int .i64 x4 else undef) = u32
    generalize (if p4 = true then Value.bool q4 else undef) = u33
    generalize (if p5 = true then Value.pointer (some ⟨w.heap.size, 5, none⟩) else undef) = u39
    generalize (if p5 = true then Value.int .u64 x5 else undef) = u40
    generalize (if p5 = true then Value.bool q5 else undef) = u41
    generalize (if p6 = true then Value.pointer (some ⟨w.heap.size, 6, none⟩) else undef) = u49
    generalize (if p6 = true then Value.int .u64 x6 else undef) = u50
    generalize (if p6 = true then Value.pointer (some ⟨w.heap.size, 8, none⟩) else undef) = u51
    generalize (if p6 = true then Value.int .u64 x8 else undef) = u52
    generalize (if p6 = true then Value.bool q6 else undef) = u53
    generalize (if p8 = true then Value.pointer (some ⟨w.heap.size, 8, none⟩) else undef) = u67
    generalize (if p8 = true then Value.int .u64 x8 else undef) = u68
    generalize (if p8 = true then Value.bool q8 else undef) = u69
    generalize (if p9 = false then Value.pointer (some ⟨w.heap.size, 9, none⟩) else undef) = u75
    generalize (if (!p9) = true then Value.pointer (some ⟨w.heap.size, 9, none⟩) else undef) = u75x
    generalize (if p9 = false then Value.int .i64 x9 else undef) = u76
    generalize (if (!p9) = true then Value.int .i64 x9 else undef) = u76x
    generalize (if p9 = false then Value.bool q9 else undef) = u77
    generalize (if (!p9) = true then Value.bool q9 else undef) = u77x
    generalize (if p10 = true then Value.pointer (some ⟨w.heap.size, 10, none⟩) else undef) = u83
    generalize (if p10 = true then Value.int .u64 x10 else undef) = u84
    generalize (if p10 = true then Value.bool q10 else undef) = u85
    generalize (if p11 = true then Value.pointer (some ⟨w.heap.size, 11, none⟩) else undef) = u91
    generalize (if p11 = true then Value.int .u64 x11 else undef) = u92
    generalize (if p11 = true then Value.bool q11 else undef) = u93
    generalize (if p12 = true then Value.pointer (some ⟨w.heap.size, 12, none⟩) else undef) = u101
    generalize (if p12 = true then Value.int .u64 x12 else undef) = u102
    generalize (if p12 = true then Value.bool q12 else undef) = u103
    generalize (if p13 = true then Value.pointer (some ⟨w.heap.size, 13, none⟩) else undef) = u111
    generalize (if p13 = true then Value.int .u64 x13 else undef) = u112
    generalize (if p13 = true then Value.bool q13 else undef) = u113
    generalize (if p14 = true then Value.pointer (some ⟨w.heap.size, 14, none⟩) else undef) = u119
    generalize (if p14 = true then Value.int .u64 x14 else undef) = u120
    generalize (if p14 = true then Value.bool q14 else undef) = u121
    generalize (if p15 = true then Value.pointer (some ⟨w.heap.size, 15, none⟩) else undef) = u127
    generalize (if p15 = true then Value.int .i64 x15 else undef) = u128
    generalize (if p15 = true then Value.bool q15 else undef) = u129
    generalize (if p16 = true then Value.pointer (some ⟨w.heap.size, 16, none⟩) else undef) = u135
    generalize (if p16 = true then Value.int .u64 x16 else undef) = u136
    generalize (if p16 = true then Value.bool q16 else undef) = u137
    clear hp0 hq0 hp2 hq2 hp4 hq4 hp5 hq5 hp6 hq6 hp8 hq8 hp10 hq10 hp11 hq11 hp12 hq12 hp13 hq13 hp14 hq14 hp15 hq15 hp16 hq16 hp9 hq9 hb0 hb1 hb2 hb3 hb4 hb5 hb6 hb7 hb8 hb9 hb10 hb11 hb12 hb13 hb14 hb15 hb16 hHeld
    go_wp2_with fail
    refine wp_loop_rounds 18 ?_
    rw [rounds_succ]
    cases b0
    · go_wp2_with fail
      go_ret
      exact ⟨rfl, by repeat (first | exact Gr.refl _ | apply Gr.drewN | apply Gr.drew | apply Gr.gw | apply Gr.alloc)⟩
    go_wp2_with fail
    rw [rounds_succ]
    cases b1
    · go_wp2_with fail
      go_ret
      exact ⟨rfl, by repeat (first | exact Gr.refl _ | apply Gr.drewN | apply Gr.drew | apply Gr.gw | apply Gr.alloc)⟩
    go_wp2_with fail
    rw [rounds_succ]
    cases b2
    · go_wp2_with fail
      go_ret
      exact ⟨rfl, by repeat (first | exact Gr.refl _ | apply Gr.drewN | apply Gr.drew | apply Gr.gw | apply Gr.alloc)⟩
    go_wp2_with fail
    rw [rounds_succ]
    cases b3
    · go_wp2_with fail
      go_ret
      exact ⟨rfl, by repeat (first | exact Gr.refl _ | apply Gr.drewN | apply Gr.drew | apply Gr.gw | apply Gr.alloc)⟩
    go_wp2_with fail
    rw [rounds_succ]
    cases b4
    · go_wp2_with fail
      go_ret
      exact ⟨rfl, by repeat (first | exact Gr.refl _ | apply Gr.drewN | apply Gr.drew | apply Gr.gw | apply Gr.alloc)⟩
    go_wp2_with fail
    rw [rounds_succ]
    cases b5
    · go_wp2_with fail
      go_ret
      exact ⟨rfl, by repeat (first | exact Gr.refl _ | apply Gr.drewN | apply Gr.drew | apply Gr.gw | apply Gr.alloc)⟩
    go_wp2_with fail
    rw [rounds_succ]
    cases b6
    · go_wp2_with fail
      go_ret
      exact ⟨rfl, by repeat (first | exact Gr.refl _ | apply Gr.drewN | apply Gr.drew | apply Gr.gw | apply Gr.alloc)⟩
    go_wp2_with fail
    rw [rounds_succ]
    cases b7
    · go_wp2_with fail
      go_ret
      exact ⟨rfl, by repeat (first | exact Gr.refl _ | apply Gr.drewN | apply Gr.drew | apply Gr.gw | apply Gr.alloc)⟩
    go_wp2_with fail
    rw [rounds_succ]
    cases b8
    · go_wp2_with fail
      go_ret
      exact ⟨rfl, by repeat (first | exact Gr.refl _ | apply Gr.drewN | apply Gr.drew | apply Gr.gw | apply Gr.alloc)⟩
    go_wp2_with fail
    rw [rounds_succ]
    cases b9
    · go_wp2_with fail
      go_ret
      exact ⟨rfl, by repeat (first | exact Gr.refl _ | apply Gr.drewN | apply Gr.drew | apply Gr.gw | apply Gr.alloc)⟩
    go_wp2_with fail
    rw [rounds_succ]
    cases b10
    · go_wp2_with fail
      go_ret
      exact ⟨rfl, by repeat (first | exact Gr.refl _ | apply Gr.drewN | apply Gr.drew | apply Gr.gw | apply Gr.alloc)⟩
    go_wp2_with fail
    rw [rounds_succ]
    cases b11
    · go_wp2_with fail
      go_ret
      exact ⟨rfl, by repeat (first | exact Gr.refl _ | apply Gr.drewN | apply Gr.drew | apply Gr.gw | apply Gr.alloc)⟩
    go_wp2_with fail
    rw [rounds_succ]
    cases b12
    · go_wp2_with fail
      go_ret
      exact ⟨rfl, by repeat (first | exact Gr.refl _ | apply Gr.drewN | apply Gr.drew | apply Gr.gw | apply Gr.alloc)⟩
    go_wp2_with fail
    rw [rounds_succ]
    cases b13
    · go_wp2_with fail
      go_ret
      exact ⟨rfl, by repeat (first | exact Gr.refl _ | apply Gr.drewN | apply Gr.drew | apply Gr.gw | apply Gr.alloc)⟩
    go_wp2_with fail
    rw [rounds_succ]
    cases b14
    · go_wp2_with fail
      go_ret
      exact ⟨rfl, by repeat (first | exact Gr.refl _ | apply Gr.drewN | apply Gr.drew | apply Gr.gw | apply Gr.alloc)⟩
    go_wp2_with fail
    rw [rounds_succ]
    cases b15
    · go_wp2_with fail
      go_ret
      exact ⟨rfl, by repeat (first | exact Gr.refl _ | apply Gr.drewN | apply Gr.drew | apply Gr.gw | apply Gr.alloc)⟩
    go_wp2_with fail
    rw [rounds_succ]
    cases b16
    · go_wp2_with fail
      go_ret
      exact ⟨rfl, by repeat (first | exact Gr.refl _ | apply Gr.drewN | apply Gr.drew | apply Gr.gw | apply Gr.alloc)⟩
    go_wp2_with fail
    rw [rounds_succ]
    go_wp2_with fail
    go_ret
    exact ⟨rfl, by repeat (first | exact Gr.refl _ | apply Gr.drewN | apply Gr.drew | apply Gr.gw | apply Gr.alloc)⟩
  · go_simp
    refine hK.out _ _ (by first | go_simp | go_keep) (fun hHeld => ?_)
    clear hK K
    refine held_as (l' := #[true, true, true, true, true, true, true, true, true, true, true, true, true, true, true, true, true, true, true, true, true, true, true, true, true, true, true, true, true, true, true, true, true, true, true, true, true, true, true, true, true, true, true, true, true, true, true, true, true, true, true, true, true, true, false, false, true, true, true, true, true, false, false, false, false, false, true, true, true, false, false, false, false, false, true, true, true, false, false, false, false, false, true, true, true, false, false, false, false, false, true, true, true, true, true, false, false, false, false, false, true, true, true, true, true, false, false, false, false, false, true, true, true, false, false, false, false, false, true, true, true, false, false, false, false, false, true, true, true, false, false, false, false, false, false, true, false]) (by kernel_rfl) ?_
    refine wpAnyH_ready (rs := [54]) ((congrArg (fun l => Region.ready .any (List.toArray l) _) (by kernel_rfl : _ = regOps)).trans chk29) (by simp) ?_
    refine AllReadyH.cons (o := _) rfl (fun K hK => ?_) AllReadyH.nil
    go_simp
    refine (rMul 2 x5 ⟨by omega, by omega⟩ H5.out _).mono ?_; rintro e w' ⟨rfl, rfl⟩
    go_simp
    refine hK.out _ _ (by first | assumption | go_simp | go_keep) (fun hHeld => ?_)
    clear hK K
    refine held_as (l' := #[true, true, true, true, true, true, true, true, true, true, true, true, true, true, true, true, true, true, true, true, true, true, true, true, true, true, true, true, true, true, true, true, true, true, true, true, true, true, true, true, true, true, true, true, true, true, true, true, true, true, true, true, true, true, true, false, true, true, true, true, true, false, false, false, false, false, true, true, true, false, false, false, false, false, true, true, true, false, false, false, false, false, true, true, true, false, false, false, false, false, true, true, true, true, true, false, false, false, false, false, true, true, true, true, true, false, false, false, false, false, true, true, true, false, false, false, false, false, true, true, true, false, false, false, false, false, true, true, true, false, false, false, false, false, false, true, false]) (by kernel_rfl) ?_
    refine held_step regOps (by kernel_rfl) 55 1 47 48 rfl (by kernel_rfl) noSel chk30 (listed' := #[true, true, true, true, true, true, true, true, true, true, true, true, true, true, true, true, true, true, true, true, true, true, true, true, true, true, true, true, true, true, true, true, true, true, true, true, true, true, true, true, true, true, true, true, true, true, true, true, true, true, true, true, true, true, true, true, true, true, true, true, true, false, false, false, false, false, true, true, true, false, false, false, false, false, true, true, true, false, false, false, false, false, true, true, true, false, false, false, false, false, true, true, true, true, true, false, false, false, false, false, true, true, true, true, true, false, false, false, false, false, true, true, true, false, false, false, false, false, true, true, true, false, false, false, false, false, true, true, true, false, false, false, false, false, false, true, false]) (by kernel_rfl) (fun _ _ d _ _ h => by cases d <;> exact h) (by assumption) ?_
    simp only [List.drop_succ_cons, List.drop_zero, List.take_succ_cons, List.take_zero]
    refine wpHeld_val (.bool b7) (by rfl) (fun w hS => by (try dsimp only at hS); go_simp) ?_
    simp only [Act.put, List.setIfInBounds_toArray, List.set_cons_zero, List.set_cons_succ]
    refine wpHeld_nil ?_
    refine held_step regOps (by kernel_rfl) 61 5 42 47 rfl (by kernel_rfl) noSel chk31 (listed' := #[true, true, true, true, true, true, true, true, true, true, true, true, true, true, true, true, true, true, true, true, true, true, true, true, true, true, true, true, true, true, true, true, true, true, true, true, true, true, true, true, true, true, true, true, true, true, true, true, true, true, true, true, true, true, true, true, true, true, true, true, true, true, true, true, true, true, true, true, true, false, false, false, false, false, true, true, true, false, false, false, false, false, true, true, true, false, false, false, false, false, true, true, true, true, true, false, false, false, false, false, true, true, true, true, true, false, false, false, false, false, true, true, true, false, false, false, false, false, true, true, true, false, false, false, false, false, true, true, true, false, false, false, false, false, false, true, false]) (by kernel_rfl) (fun _ _ d _ _ h => by cases d <;> exact h) (by assumption) ?_
    simp only [List.drop_succ_cons, List.drop_zero, List.take_succ_cons, List.take_zero]
    refine wpHeld_val (.bool p8) (by rfl) (fun w hS => by (try dsimp only at hS); go_simp) ?_
    simp only [Act.put, List.setIfInBounds_toArray, List.set_cons_zero, List.set_cons_succ]
    refine wpHeld_guard p8 (.pointer (some ⟨w.heap.size, 8, none⟩)) (by go_simp) (fun hp w hS => by (try dsimp only at hS); (try simp only [hp]); go_simp) ?_
    simp only [Act.put, List.setIfInBounds_toArray, List.set_cons_zero, List.set_cons_succ]
    refine wpHeld_guard p8 (.int .u64 x8) (by go_simp) (fun hp w hS => by (try dsimp only at hS); (try simp only [hp]); go_simp) ?_
    simp only [Act.put, List.setIfInBounds_toArray, List.set_cons_zero, List.set_cons_succ]
    refine wpHeld_guard p8 (.bool q8) (by go_simp) (fun hp w hS => by (try dsimp only at hS); (try simp only [hp]); go_simp) ?_
    simp only [Act.put, List.setIfInBounds_toArray, List.set_cons_zero, List.set_cons_succ]
    refine wpHeld_val (.bool b8) (by rfl) (fun w hS => by (try dsimp only at hS); go_simp) ?_
    simp only [Act.put, List.setIfInBounds_toArray, List.set_cons_zero, List.set_cons_succ]
    refine wpHeld_nil ?_
    refine held_step regOps (by kernel_rfl) 69 5 37 42 rfl (by kernel_rfl) noSel chk32 (listed' := #[true, true, true, true, true, true, true, true, true, true, true, true, true, true, true, true, true, true, true, true, true, true, true, true, true, true, true, true, true, true, true, true, true, true, true, true, true, true, true, true, true, true, true, true, true, true, true, true, true, true, true, true, true, true, true, true, true, true, true, true, true, true, true, true, true, true, true, true, true, true, true, true, true, true, true, true, true, false, false, false, false, false, true, true, true, false, false, false, false, false, true, true, true, true, true, false, false, false, false, false, true, true, true, true, true, false, false, false, false, false, true, true, true, false, false, false, false, false, true, true, true, false, false, false, false, false, true, true, true, false, false, false, false, false, false, true, false]) (by kernel_rfl) (fun _ _ d _ _ h => by cases d <;> exact h) (by assumption) ?_
    simp only [List.drop_succ_cons, List.drop_zero, List.take_succ_cons, List.take_zero]
    refine wpHeld_val (.bool p9) (by rfl) (fun w hS => by (try dsimp only at hS); go_simp) ?_
    simp only [Act.put, List.setIfInBounds_toArray, List.set_cons_zero, List.set_cons_succ]
    refine wpHeld_guard (!p9) (.pointer (some ⟨w.heap.size, 9, none⟩)) (by go_simp) (fun hp w hS => by (try dsimp only at hS); (try simp only [hp]); go_simp) ?_
    simp only [Act.put, List.setIfInBounds_toArray, List.set_cons_zero, List.set_cons_succ]
    refine wpHeld_guard (!p9) (.int .i64 x9) (by go_simp) (fun hp w hS => by (try dsimp only at hS); (try simp only [hp]); go_simp) ?_
    simp only [Act.put, List.setIfInBounds_toArray, List.set_cons_zero, List.set_cons_succ]
    refine wpHeld_guard (!p9) (.bool q9) (by go_simp) (fun hp w hS => by (try dsimp only at hS); (try simp only [hp]); go_simp) ?_
    simp only [Act.put, List.setIfInBounds_toArray, List.set_cons_zero, List.set_cons_succ]
    refine wpHeld_val (.bool b9) (by rfl) (fun w hS => by (try dsimp only at hS); go_simp) ?_
    simp only [Act.put, List.setIfInBounds_toArray, List.set_cons_zero, List.set_cons_succ]
    refine wpHeld_nil ?_
    refine held_step regOps (by kernel_rfl) 77 5 32 37 rfl (by kernel_rfl) noSel chk33 (listed' := #[true, true, true, true, true, true, true, true, true, true, true, true, true, true, true, true, true, true, true, true, true, true, true, true, true, true, true, true, true, true, true, true, true, true, true, true, true, true, true, true, true, true, true, true, true, true, true, true, true, true, true, true, true, true, true, true, true, true, true, true, true, true, true, true, true, true, true, true, true, true, true, true, true, true, true, true, true, true, true, true, true, true, true, true, true, false, false, false, false, false, true, true, true, true, true, false, false, false, false, false, true, true, true, true, true, false, false, false, false, false, true, true, true, false, false, false, false, false, true, true, true, false, false, false, false, false, true, true, true, false, false, false, false, false, false, true, false]) (by kernel_rfl) (fun _ _ d _ _ h => by cases d <;> exact h) (by assumption) ?_
    simp only [List.drop_succ_cons, List.drop_zero, List.take_succ_cons, List.take_zero]
    refine wpHeld_val (.bool p10) (by rfl) (fun w hS => by (try dsimp only at hS); go_simp) ?_
    simp only [Act.put, List.setIfInBounds_toArray, List.set_cons_zero, List.set_cons_succ]
    refine wpHeld_guard p10 (.pointer (some ⟨w.heap.size, 10, none⟩)) (by go_simp) (fun hp w hS => by (try dsimp only at hS); (try simp only [hp]); go_simp) ?_
    simp only [Act.put, List.setIfInBounds_toArray, List.set_cons_zero, List.set_cons_succ]
    refine wpHeld_guard p10 (.int .u64 x10) (by go_simp) (fun hp w hS => by (try dsimp only at hS); (try simp only [hp]); go_simp) ?_
    simp only [Act.put, List.setIfInBounds_toArray, List.set_cons_zero, List.set_cons_succ]
    refine wpHeld_guard p10 (.bool q10) (by go_simp) (fun hp w hS => by (try dsimp only at hS); (try simp only [hp]); go_simp) ?_
    simp only [Act.put, List.setIfInBounds_toArray, List.set_cons_zero, List.set_cons_succ]
    refine wpHeld_val (.bool b10) (by rfl) (fun w hS => by (try dsimp only at hS); go_simp) ?_
    simp only [Act.put, List.setIfInBounds_toArray, List.set_cons_zero, List.set_cons_succ]
    refine wpHeld_nil ?_
    refine held_step regOps (by kernel_rfl) 85 5 27 32 rfl (by kernel_rfl) noSel chk34 (listed' := #[true, true, true, true, true, true, true, true, true, true, true, true, true, true, true, true, true, true, true, true, true, true, true, true, true, true, true, true, true, true, true, true, true, true, true, true, true, true, true, true, true, true, true, true, true, true, true, true, true, true, true, true, true, true, true, true, true, true, true, true, true, true, true, true, true, true, true, true, true, true, true, true, true, true, true, true, true, true, true, true, true, true, true, true, true, true, true, true, true, true, true, true, true, true, true, false, false, false, false, false, true, true, true, true, true, false, false, false, false, false, true, true, true, false, false, false, false, false, true, true, true, false, false, false, false, false, true, true, true, false, false, false, false, false, false, true, false]) (by kernel_rfl) (fun _ _ d _ _ h => by cases d <;> exact h) (by assumption) ?_
    simp only [List.drop_succ_cons, List.drop_zero, List.take_succ_cons, List.take_zero]
    refine wpHeld_val (.bool p11) (by rfl) (fun w hS => by (try dsimp only at hS); go_simp) ?_
    simp only [Act.put, List.setIfInBounds_toArray, List.set_cons_zero, List.set_cons_succ]
    refine wpHeld_guard p11 (.pointer (some ⟨w.heap.size, 11, none⟩)) (by go_simp) (fun hp w hS => by (try dsimp only at hS); (try simp only [hp]); go_simp) ?_
    simp only [Act.put, List.setIfInBounds_toArray, List.set_cons_zero, List.set_cons_succ]
    refine wpHeld_guard p11 (.int .u64 x11) (by go_simp) (fun hp w hS => by (try dsimp only at hS); (try simp only [hp]); go_simp) ?_
    simp only [Act.put, List.setIfInBounds_toArray, List.set_cons_zero, List.set_cons_succ]
    refine wpHeld_guard p11 (.bool q11) (by go_simp) (fun hp w hS => by (try dsimp only at hS); (try simp only [hp]); go_simp) ?_
    simp only [Act.put, List.setIfInBounds_toArray, List.set_cons_zero, List.set_cons_succ]
    refine wpHeld_val (.bool b11) (by rfl) (fun w hS => by (try dsimp only at hS); go_simp) ?_
    simp only [Act.put, List.setIfInBounds_toArray, List.set_cons_zero, List.set_cons_succ]
    refine wpHeld_nil ?_
    refine held_step regOps (by kernel_rfl) 95 5 22 27 rfl (by kernel_rfl) noSel chk35 (listed' := #[true, true, true, true, true, true, true, true, true, true, true, true, true, true, true, true, true, true, true, true, true, true, true, true, true, true, true, true, true, true, true, true, true, true, true, true, true, true, true, true, true, true, true, true, true, true, true, true, true, true, true, true, true, true, true, true, true, true, true, true, true, true, true, true, true, true, true, true, true, true, true, true, true, true, true, true, true, true, true, true, true, true, true, true, true, true, true, true, true, true, true, true, true, true, true, true, true, true, true, true, true, true, true, true, true, false, false, false, false, false, true, true, true, false, false, false, false, false, true, true, true, false, false, false, false, false, true, true, true, false, false, false, false, false, false, true, false]) (by kernel_rfl) (fun _ _ d _ _ h => by cases d <;> exact h) (by assumption) ?_
    simp only [List.drop_succ_cons, List.drop_zero, List.take_succ_cons, List.take_zero]
    refine wpHeld_val (.bool p12) (by rfl) (fun w hS => by (try dsimp only at hS); go_simp) ?_
    simp only [Act.put, List.setIfInBounds_toArray, List.set_cons_zero, List.set_cons_succ]
    refine wpHeld_guard p12 (.pointer (some ⟨w.heap.size, 12, none⟩)) (by go_simp) (fun hp w hS => by (try dsimp only at hS); (try simp only [hp]); go_simp) ?_
    simp only [Act.put, List.setIfInBounds_toArray, List.set_cons_zero, List.set_cons_succ]
    refine wpHeld_guard p12 (.int .u64 x12) (by go_simp) (fun hp w hS => by (try dsimp only at hS); (try simp only [hp]); go_simp) ?_
    simp only [Act.put, List.setIfInBounds_toArray, List.set_cons_zero, List.set_cons_succ]
    refine wpHeld_guard p12 (.bool q12) (by go_simp) (fun hp w hS => by (try dsimp only at hS); (try simp only [hp]); go_simp) ?_
    simp only [Act.put, List.setIfInBounds_toArray, List.set_cons_zero, List.set_cons_succ]
    refine wpHeld_val (.bool b12) (by rfl) (fun w hS => by (try dsimp only at hS); go_simp) ?_
    simp only [Act.put, List.setIfInBounds_toArray, List.set_cons_zero, List.set_cons_succ]
    refine wpHeld_nil ?_
    refine held_step regOps (by kernel_rfl) 105 5 17 22 rfl (by kernel_rfl) noSel chk36 (listed' := #[true, true, true, true, true, true, true, true, true, true, true, true, true, true, true, true, true, true, true, true, true, true, true, true, true, true, true, true, true, true, true, true, true, true, true, true, true, true, true, true, true, true, true, true, true, true, true, true, true, true, true, true, true, true, true, true, true, true, true, true, true, true, true, true, true, true, true, true, true, true, true, true, true, true, true, true, true, true, true, true, true, true, true, true, true, true, true, true, true, true, true, true, true, true, true, true, true, true, true, true, true, true, true, true, true, true, true, true, true, true, true, true, true, false, false, false, false, false, true, true, true, false, false, false, false, false, true, true, true, false, false, false, false, false, false, true, false]) (by kernel_rfl) (fun _ _ d _ _ h => by cases d <;> exact h) (by assumption) ?_
    simp only [List.drop_succ_cons, List.drop_zero, List.take_succ_cons, List.take_zero]
    refine wpHeld_val (.bool p13) (by rfl) (fun w hS => by (try dsimp only at hS); go_simp) ?_
    simp only [Act.put, List.setIfInBounds_toArray, List.set_cons_zero, List.set_cons_succ]
    refine wpHeld_guard p13 (.pointer (some ⟨w.heap.size, 13, none⟩)) (by go_simp) (fun hp w hS => by (try dsimp only at hS); (try simp only [hp]); go_simp) ?_
    simp only [Act.put, List.setIfInBounds_toArray, List.set_cons_zero, List.set_cons_succ]
    refine wpHeld_guard p13 (.int .u64 x13) (by go_simp) (fun hp w hS => by (try dsimp only at hS); (try simp only [hp]); go_simp) ?_
    simp only [Act.put, List.setIfInBounds_toArray, List.set_cons_zero, List.set_cons_succ]
    refine wpHeld_guard p13 (.bool q13) (by go_simp) (fun hp w hS => by (try dsimp only at hS); (try simp only [hp]); go_simp) ?_
    simp only [Act.put, List.setIfInBounds_toArray, List.set_cons_zero, List.set_cons_succ]
    refine wpHeld_val (.bool b13) (by rfl) (fun w hS => by (try dsimp only at hS); go_simp) ?_
    simp only [Act.put, List.setIfInBounds_toArray, List.set_cons_zero, List.set_cons_succ]
    refine wpHeld_nil ?_
    refine held_step regOps (by kernel_rfl) 113 5 12 17 rfl (by kernel_rfl) noSel chk37 (listed' := #[true, true, true, true, true, true, true, true, true, true, true, true, true, true, true, true, true, true, true, true, true, true, true, true, true, true, true, true, true, true, true, true, true, true, true, true, true, true, true, true, true, true, true, true, true, true, true, true, true, true, true, true, true, true, true, true, true, true, true, true, true, true, true, true, true, true, true, true, true, true, true, true, true, true, true, true, true, true, true, true, true, true, true, true, true, true, true, true, true, true, true, true, true, true, true, true, true, true, true, true, true, true, true, true, true, true, true, true, true, true, true, true, true, true, true, true, true, true, true, true, true, false, false, false, false, false, true, true, true, false, false, false, false, false, false, true, false]) (by kernel_rfl) (fun _ _ d _ _ h => by cases d <;> exact h) (by assumption) ?_
    simp only [List.drop_succ_cons, List.drop_zero, List.take_succ_cons, List.take_zero]
    refine wpHeld_val (.bool p14) (by rfl) (fun w hS => by (try dsimp only at hS); go_simp) ?_
    simp only [Act.put, List.setIfInBounds_toArray, List.set_cons_zero, List.set_cons_succ]
    refine wpHeld_guard p14 (.pointer (some ⟨w.heap.size, 14, none⟩)) (by go_simp) (fun hp w hS => by (try dsimp only at hS); (try simp only [hp]); go_simp) ?_
    simp only [Act.put, List.setIfInBounds_toArray, List.set_cons_zero, List.set_cons_succ]
    refine wpHeld_guard p14 (.int .u64 x14) (by go_simp) (fun hp w hS => by (try dsimp only at hS); (try simp only [hp]); go_simp) ?_
    simp only [Act.put, List.setIfInBounds_toArray, List.set_cons_zero, List.set_cons_succ]
    refine wpHeld_guard p14 (.bool q14) (by go_simp) (fun hp w hS => by (try dsimp only at hS); (try simp only [hp]); go_simp) ?_
    simp only [Act.put, List.setIfInBounds_toArray, List.set_cons_zero, List.set_cons_succ]
    refine wpHeld_val (.bool b14) (by rfl) (fun w hS => by (try dsimp only at hS); go_simp) ?_
    simp only [Act.put, List.setIfInBounds_toArray, List.set_cons_zero, List.set_cons_succ]
    refine wpHeld_nil ?_
    refine held_step regOps (by kernel_rfl) 121 5 7 12 rfl (by kernel_rfl) noSel chk38 (listed' := #[true, true, true, true, true, true, true, true, true, true, true, true, true, true, true, true, true, true, true, true, true, true, true, true, true, true, true, true, true, true, true, true, true, true, true, true, true, true, true, true, true, true, true, true, true, true, true, true, true, true, true, true, true, true, true, true, true, true, true, true, true, true, true, true, true, true, true, true, true, true, true, true, true, true, true, true, true, true, true, true, true, true, true, true, true, true, true, true, true, true, true, true, true, true, true, true, true, true, true, true, true, true, true, true, true, true, true, true, true, true, true, true, true, true, true, true, true, true, true, true, true, true, true, true, true, true, true, true, true, false, false, false, false, false, false, true, false]) (by kernel_rfl) (fun _ _ d _ _ h => by cases d <;> exact h) (by assumption) ?_
    simp only [List.drop_succ_cons, List.drop_zero, List.take_succ_cons, List.take_zero]
    refine wpHeld_val (.bool p15) (by rfl) (fun w hS => by (try dsimp only at hS); go_simp) ?_
    simp only [Act.put, List.setIfInBounds_toArray, List.set_cons_zero, List.set_cons_succ]
    refine wpHeld_guard p15 (.pointer (some ⟨w.heap.size, 15, none⟩)) (by go_simp) (fun hp w hS => by (try dsimp only at hS); (try simp only [hp]); go_simp) ?_
    simp only [Act.put, List.setIfInBounds_toArray, List.set_cons_zero, List.set_cons_succ]
    refine wpHeld_guard p15 (.int .i64 x15) (by go_simp) (fun hp w hS => by (try dsimp only at hS); (try simp only [hp]); go_simp) ?_
    simp only [Act.put, List.setIfInBounds_toArray, List.set_cons_zero, List.set_cons_succ]
    refine wpHeld_guard p15 (.bool q15) (by go_simp) (fun hp w hS => by (try dsimp only at hS); (try simp only [hp]); go_simp) ?_
    simp only [Act.put, List.setIfInBounds_toArray, List.set_cons_zero, List.set_cons_succ]
    refine wpHeld_val (.bool b15) (by rfl) (fun w hS => by (try dsimp only at hS); go_simp) ?_
    simp only [Act.put, List.setIfInBounds_toArray, List.set_cons_zero, List.set_cons_succ]
    refine wpHeld_nil ?_
    refine held_step regOps (by kernel_rfl) 129 5 2 7 rfl (by kernel_rfl) noSel chk39 (listed' := #[true, true, true, true, true, true, true, true, true, true, true, true, true, true, true, true, true, true, true, true, true, true, true, true, true, true, true, true, true, true, true, true, true, true, true, true, true, true, true, true, true, true, true, true, true, true, true, true, true, true, true, true, true, true, true, true, true, true, true, true, true, true, true, true, true, true, true, true, true, true, true, true, true, true, true, true, true, true, true, true, true, true, true, true, true, true, true, true, true, true, true, true, true, true, true, true, true, true, true, true, true, true, true, true, true, true, true, true, true, true, true, true, true, true, true, true, true, true, true, true, true, true, true, true, true, true, true, true, true, true, true, true, true, true, false, true, false]) (by kernel_rfl) (fun _ _ d _ _ h => by cases d <;> exact h) (by assumption) ?_
    simp only [List.drop_succ_cons, List.drop_zero, List.take_succ_cons, List.take_zero]
    refine wpHeld_val (.bool p16) (by rfl) (fun w hS => by (try dsimp only at hS); go_simp) ?_
    simp only [Act.put, List.setIfInBounds_toArray, List.set_cons_zero, List.set_cons_succ]
    refine wpHeld_guard p16 (.pointer (some ⟨w.heap.size, 16, none⟩)) (by go_simp) (fun hp w hS => by (try dsimp only at hS); (try simp only [hp]); go_simp) ?_
    simp only [Act.put, List.setIfInBounds_toArray, List.set_cons_zero, List.set_cons_succ]
    refine wpHeld_guard p16 (.int .u64 x16) (by go_simp) (fun hp w hS => by (try dsimp only at hS); (try simp only [hp]); go_simp) ?_
    simp only [Act.put, List.setIfInBounds_toArray, List.set_cons_zero, List.set_cons_succ]
    refine wpHeld_guard p16 (.bool q16) (by go_simp) (fun hp w hS => by (try dsimp only at hS); (try simp only [hp]); go_simp) ?_
    simp only [Act.put, List.setIfInBounds_toArray, List.set_cons_zero, List.set_cons_succ]
    refine wpHeld_val (.bool b16) (by rfl) (fun w hS => by (try dsimp only at hS); go_simp) ?_
    simp only [Act.put, List.setIfInBounds_toArray, List.set_cons_zero, List.set_cons_succ]
    refine wpHeld_nil ?_
    refine held_step regOps (by kernel_rfl) 134 1 1 2 rfl (by kernel_rfl) noSel chk40 (listed' := #[true, true, true, true, true, true, true, true, true, true, true, true, true, true, true, true, true, true, true, true, true, true, true, true, true, true, true, true, true, true, true, true, true, true, true, true, true, true, true, true, true, true, true, true, true, true, true, true, true, true, true, true, true, true, true, true, true, true, true, true, true, true, true, true, true, true, true, true, true, true, true, true, true, true, true, true, true, true, true, true, true, true, true, true, true, true, true, true, true, true, true, true, true, true, true, true, true, true, true, true, true, true, true, true, true, true, true, true, true, true, true, true, true, true, true, true, true, true, true, true, true, true, true, true, true, true, true, true, true, true, true, true, true, true, true, true, false]) (by kernel_rfl) (fun _ _ d _ _ h => by cases d <;> exact h) (by assumption) ?_
    simp only [List.drop_succ_cons, List.drop_zero, List.take_succ_cons, List.take_zero]
    refine wpHeld_val (.agg #[.bool b0, .bool b1, .bool b2, .bool b3, .bool b4, .bool b5, .bool b6, .bool b7, .bool b8, .bool b9, .bool b10, .bool b11, .bool b12, .bool b13, .bool b14, .bool b15, .bool b16]) (by rfl) (fun w hS => by (try dsimp only at hS); go_simp) ?_
    simp only [Act.put, List.setIfInBounds_toArray, List.set_cons_zero, List.set_cons_succ]
    refine wpHeld_nil ?_
    refine wpAnyH_ready (rs := [136]) ((congrArg (fun l => Region.ready .any (List.toArray l) _) (by kernel_rfl : _ = regOps)).trans chk41) (by simp) ?_
    refine AllReadyH.cons (o := _) rfl (fun K hK => ?_) AllReadyH.nil
    rw [if_pos (by rfl)]
    refine wp_store_end 149 (.tmp 3) (.tmp 139) rfl rfl (w.heap.size + 1) #[.bool b0, .bool b1, .bool b2, .bool b3, .bool b4, .bool b5, .bool b6, .bool b7, .bool b8, .bool b9, .bool b10, .bool b11, .bool b12, .bool b13, .bool b14, .bool b15, .bool b16] rfl rfl 149 #[.bool false, .bool false, .bool false, .bool false, .bool false, .bool false, .bool false, .bool false, .bool false, .bool false, .bool false, .bool false, .bool false, .bool false, .bool false, .bool false, .bool false] (top_heap _ _ _ _) (by kernel_rfl) rfl (by first | kernel_rfl | simp [Value.oneCell'] | rfl) ?_
    rw [setRow_top]
    refine hK.out _ _ (by first | go_simp | go_keep) (fun hHeld => ?_)
    clear hK K
    refine wpAnyH_done (by kernel_rfl) ?_ _
    generalize (if p0 = true then Value.pointer (some ⟨w.heap.size, 0, none⟩) else undef) = u9
    generalize (if p0 = true then Value.int .i64 x0 else undef) = u10
    generalize (if p0 = true then Value.bool q0 else undef) = u11
    generalize (if p2 = true then Value.pointer (some ⟨w.heap.size, 2, none⟩) else undef) = u20
    generalize (if p2 = true then Value.int .i64 x2 else undef) = u21
    generalize (if p2 = true then Value.bool q2 else undef) = u22
    generalize (if p4 = true then Value.pointer (some ⟨w.heap.size, 4, none⟩) else undef) = u31
    generalize (if p4 = true then Value.int .i64 x4 else undef) = u32
    generalize (if p4 = true then Value.bool q4 else undef) = u33
    generalize (if p5 = true then Value.pointer (some ⟨w.heap.size, 5, none⟩) else undef) = u39
    generalize (if p5 = true then Value.int .u64 x5 else undef) = u40
    generalize (if p5 = true then Value.bool q5 else undef) = u41
    generalize (if p6 = true then Value.pointer (some ⟨w.heap.size, 6, none⟩) else undef) = u49
    generalize (if p6 = true then Value.int .u64 x6 else undef) = u50
    generalize (if p6 = true then Value.pointer (some ⟨w.heap.size, 8, none⟩) else undef) = u51
    generalize (if p6 = true then Value.int .u64 x8 else undef) = u52
    generalize (if p6 = true then Value.bool q6 else undef) = u53
    generalize (if p8 = true then Value.pointer (some ⟨w.heap.size, 8, none⟩) else undef) = u67
    generalize (if p8 = true then Value.int .u64 x8 else undef) = u68
    generalize (if p8 = true then Value.bool q8 else undef) = u69
    generalize (if p9 = false then Value.pointer (some ⟨w.heap.size, 9, none⟩) else undef) = u75
    generalize (if (!p9) = true then Value.pointer (some ⟨w.heap.size, 9, none⟩) else undef) = u75x
    generalize (if p9 = false then Value.int .i64 x9 else undef) = u76
    generalize (if (!p9) = true then Value.int .i64 x9 else undef) = u76x
    generalize (if p9 = false then Value.bool q9 else undef) = u77
    generalize (if (!p9) = true then Value.bool q9 else undef) = u77x
    generalize (if p10 = true then Value.pointer (some ⟨w.heap.size, 10, none⟩) else undef) = u83
    generalize (if p10 = true then Value.int .u64 x10 else undef) = u84
    generalize (if p10 = true then Value.bool q10 else undef) = u85
    generalize (if p11 = true then Value.pointer (some ⟨w.heap.size, 11, none⟩) else undef) = u91
    generalize (if p11 = true then Value.int .u64 x11 else undef) = u92
    generalize (if p11 = true then Value.bool q11 else undef) = u93
    generalize (if p12 = true then Value.pointer (some ⟨w.heap.size, 12, none⟩) else undef) = u101
    generalize (if p12 = true then Value.int .u64 x12 else undef) = u102
    generalize (if p12 = true then Value.bool q12 else undef) = u103
    generalize (if p13 = true then Value.pointer (some ⟨w.heap.size, 13, none⟩) else undef) = u111
    generalize (if p13 = true then Value.int .u64 x13 else undef) = u112
    generalize (if p13 = true then Value.bool q13 else undef) = u113
    generalize (if p14 = true then Value.pointer (some ⟨w.heap.size, 14, none⟩) else undef) = u119
    generalize (if p14 = true then Value.int .u64 x14 else undef) = u120
    generalize (if p14 = true then Value.bool q14 else undef) = u121
    generalize (if p15 = true then Value.pointer (some ⟨w.heap.size, 15, none⟩) else undef) = u127
    generalize (if p15 = true then Value.int .i64 x15 else undef) = u128
    generalize (if p15 = true then Value.bool q15 else undef) = u129
    generalize (if p16 = true then Value.pointer (some ⟨w.heap.size, 16, none⟩) else undef) = u135
    generalize (if p16 = true then Value.int .u64 x16 else undef) = u136
    generalize (if p16 = true then Value.bool q16 else undef) = u137
    clear hp0 hq0 hp2 hq2 hp4 hq4 hp5 hq5 hp6 hq6 hp8 hq8 hp10 hq10 hp11 hq11 hp12 hq12 hp13 hq13 hp14 hq14 hp15 hq15 hp16 hq16 hp9 hq9 hb0 hb1 hb2 hb3 hb4 hb5 hb6 hb7 hb8 hb9 hb10 hb11 hb12 hb13 hb14 hb15 hb16 hHeld
    go_wp2_with fail
    refine wp_loop_rounds 18 ?_
    rw [rounds_succ]
    cases b0
    · go_wp2_with fail
      go_ret
      exact ⟨rfl, by repeat (first | exact Gr.refl _ | apply Gr.drewN | apply Gr.drew | apply Gr.gw | apply Gr.alloc)⟩
    go_wp2_with fail
    rw [rounds_succ]
    cases b1
    · go_wp2_with fail
      go_ret
      exact ⟨rfl, by repeat (first | exact Gr.refl _ | apply Gr.drewN | apply Gr.drew | apply Gr.gw | apply Gr.alloc)⟩
    go_wp2_with fail
    rw [rounds_succ]
    cases b2
    · go_wp2_with fail
      go_ret
      exact ⟨rfl, by repeat (first | exact Gr.refl _ | apply Gr.drewN | apply Gr.drew | apply Gr.gw | apply Gr.alloc)⟩
    go_wp2_with fail
    rw [rounds_succ]
    cases b3
    · go_wp2_with fail
      go_ret
      exact ⟨rfl, by repeat (first | exact Gr.refl _ | apply Gr.drewN | apply Gr.drew | apply Gr.gw | apply Gr.alloc)⟩
    go_wp2_with fail
    rw [rounds_succ]
    cases b4
    · go_wp2_with fail
      go_ret
      exact ⟨rfl, by repeat (first | exact Gr.refl _ | apply Gr.drewN | apply Gr.drew | apply Gr.gw | apply Gr.alloc)⟩
    go_wp2_with fail
    rw [rounds_succ]
    cases b5
    · go_wp2_with fail
      go_ret
      exact ⟨rfl, by repeat (first | exact Gr.refl _ | apply Gr.drewN | apply Gr.drew | apply Gr.gw | apply Gr.alloc)⟩
    go_wp2_with fail
    rw [rounds_succ]
    cases b6
    · go_wp2_with fail
      go_ret
      exact ⟨rfl, by repeat (first | exact Gr.refl _ | apply Gr.drewN | apply Gr.drew | apply Gr.gw | apply Gr.alloc)⟩
    go_wp2_with fail
    rw [rounds_succ]
    cases b7
    · go_wp2_with fail
      go_ret
      exact ⟨rfl, by repeat (first | exact Gr.refl _ | apply Gr.drewN | apply Gr.drew | apply Gr.gw | apply Gr.alloc)⟩
    go_wp2_with fail
    rw [rounds_succ]
    cases b8
    · go_wp2_with fail
      go_ret
      exact ⟨rfl, by repeat (first | exact Gr.refl _ | apply Gr.drewN | apply Gr.drew | apply Gr.gw | apply Gr.alloc)⟩
    go_wp2_with fail
    rw [rounds_succ]
    cases b9
    · go_wp2_with fail
      go_ret
      exact ⟨rfl, by repeat (first | exact Gr.refl _ | apply Gr.drewN | apply Gr.drew | apply Gr.gw | apply Gr.alloc)⟩
    go_wp2_with fail
    rw [rounds_succ]
    cases b10
    · go_wp2_with fail
      go_ret
      exact ⟨rfl, by repeat (first | exact Gr.refl _ | apply Gr.drewN | apply Gr.drew | apply Gr.gw | apply Gr.alloc)⟩
    go_wp2_with fail
    rw [rounds_succ]
    cases b11
    · go_wp2_with fail
      go_ret
      exact ⟨rfl, by repeat (first | exact Gr.refl _ | apply Gr.drewN | apply Gr.drew | apply Gr.gw | apply Gr.alloc)⟩
    go_wp2_with fail
    rw [rounds_succ]
    cases b12
    · go_wp2_with fail
      go_ret
      exact ⟨rfl, by repeat (first | exact Gr.refl _ | apply Gr.drewN | apply Gr.drew | apply Gr.gw | apply Gr.alloc)⟩
    go_wp2_with fail
    rw [rounds_succ]
    cases b13
    · go_wp2_with fail
      go_ret
      exact ⟨rfl, by repeat (first | exact Gr.refl _ | apply Gr.drewN | apply Gr.drew | apply Gr.gw | apply Gr.alloc)⟩
    go_wp2_with fail
    rw [rounds_succ]
    cases b14
    · go_wp2_with fail
      go_ret
      exact ⟨rfl, by repeat (first | exact Gr.refl _ | apply Gr.drewN | apply Gr.drew | apply Gr.gw | apply Gr.alloc)⟩
    go_wp2_with fail
    rw [rounds_succ]
    cases b15
    · go_wp2_with fail
      go_ret
      exact ⟨rfl, by repeat (first | exact Gr.refl _ | apply Gr.drewN | apply Gr.drew | apply Gr.gw | apply Gr.alloc)⟩
    go_wp2_with fail
    rw [rounds_succ]
    cases b16
    · go_wp2_with fail
      go_ret
      exact ⟨rfl, by repeat (first | exact Gr.refl _ | apply Gr.drewN | apply Gr.drew | apply Gr.gw | apply Gr.alloc)⟩
    go_wp2_with fail
    rw [rounds_succ]
    go_wp2_with fail
    go_ret
    exact ⟨rfl, by repeat (first | exact Gr.refl _ | apply Gr.drewN | apply Gr.drew | apply Gr.gw | apply Gr.alloc)⟩

end Go.Proofs.Ytikkmdbaekdolaa
