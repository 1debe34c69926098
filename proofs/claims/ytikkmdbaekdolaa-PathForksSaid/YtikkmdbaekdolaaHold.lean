/- ROWS THAT ARE KNOWN WHOLE, through a region that draws its order and through calls that only make memory. -/
import Derived.Test.YtikkmdbaekdolaaHeld
import Derived.Test.YtikkmdbaekdolaaRow
namespace Go.Proofs.Ytikkmdbaekdolaa
open Go.RowKit
set_option linter.unusedVariables false
set_option maxRecDepth 100000

/-- a block that holds these cells, and is not frozen -/
def RowIs (W : World) (g : Nat) (t : TypeId) (cs : Array Value) : Prop := W.heap[g]? = some (.cells cs t (0, 0))

theorem RowIs.gr {W W' : World} {g : Nat} {t : TypeId} {cs : Array Value} (h : RowIs W g t cs) (k : Gr W W') : RowIs W' g t cs := by
  have hlt : g < W.heap.size := (Array.getElem?_eq_some_iff.1 h).1
  exact (k.below.block g hlt).trans h
theorem RowIs.below {W W' : World} {g B : Nat} {t : TypeId} {cs : Array Value} (h : RowIs W g t cs) (hg : g < B) (k : Below B W W') : RowIs W' g t cs :=
  (k.block g hg).trans h
theorem RowIs.lt {W : World} {g : Nat} {t : TypeId} {cs : Array Value} (h : RowIs W g t cs) : g < W.heap.size := (Array.getElem?_eq_some_iff.1 h).1
theorem RowIs.cell {W : World} {g : Nat} {t : TypeId} {cs : Array Value} (h : RowIs W g t cs) (j : Nat) : W.cell? ⟨g, j, none⟩ = cs[j]? := cell_of_row W g j cs t _ h
theorem RowIs.mk {W : World} {g : Nat} {t : TypeId} {cs : Array Value} (h : W.heap[g]? = some (.cells cs t (0, 0))) : RowIs W g t cs := h

theorem RowIs.un {W : World} {g : Nat} {t : TypeId} {cs : Array Value} (h : RowIs W g t cs) : W.heap[g]? = some (.cells cs t (0, 0)) := h

theorem rowsKeep1 {W W' : World} {g1 : Nat} {t1 : TypeId} {c1 : Array Value} (h : RowIs W g1 t1 c1) (k : Gr W W') : RowIs W' g1 t1 c1 := h.gr k
theorem rowsKeep2 {W W' : World} {g1 g2 : Nat} {t1 t2 : TypeId} {c1 c2 : Array Value} (h : RowIs W g1 t1 c1 ∧ RowIs W g2 t2 c2) (k : Gr W W') : RowIs W' g1 t1 c1 ∧ RowIs W' g2 t2 c2 := ⟨h.1.gr k, h.2.gr k⟩
theorem rowsKeep3 {W W' : World} {g1 g2 g3 : Nat} {t1 t2 t3 : TypeId} {c1 c2 c3 : Array Value} (h : RowIs W g1 t1 c1 ∧ RowIs W g2 t2 c2 ∧ RowIs W g3 t3 c3) (k : Gr W W') : RowIs W' g1 t1 c1 ∧ RowIs W' g2 t2 c2 ∧ RowIs W' g3 t3 c3 := ⟨h.1.gr k, rowsKeep2 h.2 k⟩
theorem rowsKeep4 {W W' : World} {g1 g2 g3 g4 : Nat} {t1 t2 t3 t4 : TypeId} {c1 c2 c3 c4 : Array Value} (h : RowIs W g1 t1 c1 ∧ RowIs W g2 t2 c2 ∧ RowIs W g3 t3 c3 ∧ RowIs W g4 t4 c4) (k : Gr W W') : RowIs W' g1 t1 c1 ∧ RowIs W' g2 t2 c2 ∧ RowIs W' g3 t3 c3 ∧ RowIs W' g4 t4 c4 := ⟨h.1.gr k, rowsKeep3 h.2 k⟩
theorem rowsKeep5 {W W' : World} {g1 g2 g3 g4 g5 : Nat} {t1 t2 t3 t4 t5 : TypeId} {c1 c2 c3 c4 c5 : Array Value} (h : RowIs W g1 t1 c1 ∧ RowIs W g2 t2 c2 ∧ RowIs W g3 t3 c3 ∧ RowIs W g4 t4 c4 ∧ RowIs W g5 t5 c5) (k : Gr W W') : RowIs W' g1 t1 c1 ∧ RowIs W' g2 t2 c2 ∧ RowIs W' g3 t3 c3 ∧ RowIs W' g4 t4 c4 ∧ RowIs W' g5 t5 c5 := ⟨h.1.gr k, rowsKeep4 h.2 k⟩
theorem rowsKeep6 {W W' : World} {g1 g2 g3 g4 g5 g6 : Nat} {t1 t2 t3 t4 t5 t6 : TypeId} {c1 c2 c3 c4 c5 c6 : Array Value} (h : RowIs W g1 t1 c1 ∧ RowIs W g2 t2 c2 ∧ RowIs W g3 t3 c3 ∧ RowIs W g4 t4 c4 ∧ RowIs W g5 t5 c5 ∧ RowIs W g6 t6 c6) (k : Gr W W') : RowIs W' g1 t1 c1 ∧ RowIs W' g2 t2 c2 ∧ RowIs W' g3 t3 c3 ∧ RowIs W' g4 t4 c4 ∧ RowIs W' g5 t5 c5 ∧ RowIs W' g6 t6 c6 := ⟨h.1.gr k, rowsKeep5 h.2 k⟩

/-- a load of a whole row -/
theorem exec_load_row {P : Program} {o : Oper} {ρ : Operand → Value} {w : World} (ty : TypeId) (x : Operand) (ho : o.op = .load ty x)
    (g : Nat) (hx : ρ x = .pointer (some ⟨g, 0, none⟩)) (t : TypeId) (cs : Array Value) (fr : Nat × Nat) (d : TypeDesc) (hg : w.heap[g]? = some (.cells cs t fr))
    (hu : P.underlying ty = some d) (hd : (match d with | .struct _ | .array _ _ => true | _ => false) = true) (hi : (P.info? ty).map (·.size) = some cs.size) :
    (execOp ρ o).run P w = .ok (.value (.agg cs)) w := by
  unfold execOp
  simp only [ho, hx, Instr.loadAt, Instr.sureAddr, Sem.run_bind, Sem.run_pure, Result.andThen_ok, run_loadVar_row w g t ty cs fr d hg hu hd hi]

/-- a region that draws: its world under a name -/
theorem held_abs {P : Program} {id : Nat} {ops : Array Oper} {Q : Exit → Act → World → Prop} {S : World → Prop} {w1 : World} {a : Act} (w0 : World) (hm : P.follows .mixedOrders = true) (hS : S w1.drew) (hG : Gr w0 w1.drew)
    (h : ∀ X, S X → Gr w0 X → wpAnyH P .any ops Q S ops.size (Array.replicate ops.size false) a X) : (Code.region id ops true).wp P Q a w1 :=
  wp_region_held_drew hm hS (fun hS' => h _ hS' hG)

end Go.Proofs.Ytikkmdbaekdolaa
