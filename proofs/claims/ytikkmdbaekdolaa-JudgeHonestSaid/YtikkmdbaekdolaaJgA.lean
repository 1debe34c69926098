/- Several texts one behind the other: Hold, HoldB, SetRow, Came, Came2, Paced. -/
import Derived.Test.YtikkmdbaekdolaaHeld
import Derived.Test.YtikkmdbaekdolaaRow
import Derived.Test.YtikkmdbaekdolaaSat
import Derived.Test.YtikkmdbaekdolaaReno
import Derived.Maps.OwnOps
import Derived.Maps.OwnSet
import Derived.Deep.RegionHeld3
import Derived.BigRegion
import Derived.IntWalk
import Derived.StillTailTactics
/- ROWS THAT ARE KNOWN WHOLE, through a region that draws its order and through calls that only make memory. -/
namespace Go.Proofs.Ytikkmdbaekdolaa
open Go.RowKit
set_option linter.unusedVariables false
set_option maxRecDepth 100000

/-- a block that holds these cells, and is not frozen -/
def RowIs (W : World) (g : Nat) (t : TypeId) (cs : Array Value) : Prop := W.heap[g]? = some (.cells cs t (0, 0))

theorem RowIs.gr {W W' : World} {g : Nat} {t : TypeId} {cs : Array Value} (h : RowIs W g t cs) (k : Gr W W') : RowIs W' g t cs := by
  have hlt : g < W.heap.size := (Array.getElem?_eq_some_iff.1 h).1
  exact (k.below.block g hlt).trans h
theorem RowIs.below {W W' : World} {g B : Nat} {t : TypeId} {cs : Array Value} (h : RowIs W g t cs) (hg : g < B) (k : Below B W W') : RowIs W' g t cs :=
  (k.block g hg).trans h
theorem RowIs.lt {W : World} {g : Nat} {t : TypeId} {cs : Array Value} (h : RowIs W g t cs) : g < W.heap.size := (Array.getElem?_eq_some_iff.1 h).1
theorem RowIs.cell {W : World} {g : Nat} {t : TypeId} {cs : Array Value} (h : RowIs W g t cs) (j : Nat) : W.cell? ⟨g, j, none⟩ = cs[j]? := cell_of_row W g j cs t _ h
theorem RowIs.mk {W : World} {g : Nat} {t : TypeId} {cs : Array Value} (h : W.heap[g]? = some (.cells cs t (0, 0))) : RowIs W g t cs := h

theorem RowIs.un {W : World} {g : Nat} {t : TypeId} {cs : Array Value} (h : RowIs W g t cs) : W.heap[g]? = some (.cells cs t (0, 0)) := h

theorem rowsKeep1 {W W' : World} {g1 : Nat} {t1 : TypeId} {c1 : Array Value} (h : RowIs W g1 t1 c1) (k : Gr W W') : RowIs W' g1 t1 c1 := h.gr k
theorem rowsKeep2 {W W' : World} {g1 g2 : Nat} {t1 t2 : TypeId} {c1 c2 : Array Value} (h : RowIs W g1 t1 c1 ∧ RowIs W g2 t2 c2) (k : Gr W W') : RowIs W' g1 t1 c1 ∧ RowIs W' g2 t2 c2 := ⟨h.1.gr k, h.2.gr k⟩
theorem rowsKeep3 {W W' : World} {g1 g2 g3 : Nat} {t1 t2 t3 : TypeId} {c1 c2 c3 : Array Value} (h : RowIs W g1 t1 c1 ∧ RowIs W g2 t2 c2 ∧ RowIs W g3 t3 c3) (k : Gr W W') : RowIs W' g1 t1 c1 ∧ RowIs W' g2 t2 c2 ∧ RowIs W' g3 t3 c3 := ⟨h.1.gr k, rowsKeep2 h.2 k⟩
theorem rowsKeep4 {W W' : World} {g1 g2 g3 g4 : Nat} {t1 t2 t3 t4 : TypeId} {c1 c2 c3 c4 : Array Value} (h : RowIs W g1 t1 c1 ∧ RowIs W g2 t2 c2 ∧ RowIs W g3 t3 c3 ∧ RowIs W g4 t4 c4) (k : Gr W W') : RowIs W' g1 t1 c1 ∧ RowIs W' g2 t2 c2 ∧ RowIs W' g3 t3 c3 ∧ RowIs W' g4 t4 c4 := ⟨h.1.gr k, rowsKeep3 h.2 k⟩
theorem rowsKeep5 {W W' : World} {g1 g2 g3 g4 g5 : Nat} {t1 t2 t3 t4 t5 : TypeId} {c1 c2 c3 c4 c5 : Array Value} (h : RowIs W g1 t1 c1 ∧ RowIs W g2 t2 c2 ∧ RowIs W g3 t3 c3 ∧ RowIs W g4 t4 c4 ∧ RowIs W g5 t5 c5) (k : Gr W W') : RowIs W' g1 t1 c1 ∧ RowIs W' g2 t2 c2 ∧ RowIs W' g3 t3 c3 ∧ RowIs W' g4 t4 c4 ∧ RowIs W' g5 t5 c5 := ⟨h.1.gr k, rowsKeep4 h.2 k⟩
theorem rowsKeep6 {W W' : World} {g1 g2 g3 g4 g5 g6 : Nat} {t1 t2 t3 t4 t5 t6 : TypeId} {c1 c2 c3 c4 c5 c6 : Array Value} (h : RowIs W g1 t1 c1 ∧ RowIs W g2 t2 c2 ∧ RowIs W g3 t3 c3 ∧ RowIs W g4 t4 c4 ∧ RowIs W g5 t5 c5 ∧ RowIs W g6 t6 c6) (k : Gr W W') : RowIs W' g1 t1 c1 ∧ RowIs W' g2 t2 c2 ∧ RowIs W' g3 t3 c3 ∧ RowIs W' g4 t4 c4 ∧ RowIs W' g5 t5 c5 ∧ RowIs W' g6 t6 c6 := ⟨h.1.gr k, rowsKeep5 h.2 k⟩

/-- a load of a whole row -/
theorem exec_load_row {P : Program} {o : Oper} {ρ : Operand → Value} {w : World} (ty : TypeId) (x : Operand) (ho : o.op = .load ty x)
    (g : Nat) (hx : ρ x = .pointer (some ⟨g, 0, none⟩)) (t : TypeId) (cs : Array Value) (fr : Nat × Nat) (d : TypeDesc) (hg : w.heap[g]? = some (.cells cs t fr))
    (hu : P.underlying ty = some d) (hd : (match d with | .struct _ | .array _ _ => true | _ => false) = true) (hi : (P.info? ty).map (·.size) = some cs.size) :
    (execOp ρ o).run P w = .ok (.value (.agg cs)) w := by
  unfold execOp
  simp only [ho, hx, Instr.loadAt, Instr.sureAddr, Sem.run_bind, Sem.run_pure, Result.andThen_ok, run_loadVar_row w g t ty cs fr d hg hu hd hi]

/-- a region that draws: its world under a name -/
theorem held_abs {P : Program} {id : Nat} {ops : Array Oper} {Q : Exit → Act → World → Prop} {S : World → Prop} {w1 : World} {a : Act} (w0 : World) (hm : P.follows .mixedOrders = true) (hS : S w1.drew) (hG : Gr w0 w1.drew)
    (h : ∀ X, S X → Gr w0 X → wpAnyH P .any ops Q S ops.size (Array.replicate ops.size false) a X) : (Code.region id ops true).wp P Q a w1 :=
  wp_region_held_drew hm hS (fun hS' => h _ hS' hG)

end Go.Proofs.Ytikkmdbaekdolaa

/- ROWS THAT ARE KNOWN WHOLE, through a region that draws its order and through calls that write into blocks of their own. -/
namespace Go.Proofs.Ytikkmdbaekdolaa
open Go.RowKit
set_option linter.unusedVariables false
set_option maxRecDepth 100000

theorem held_absB {P : Program} {id : Nat} {ops : Array Oper} {Q : Exit → Act → World → Prop} {S : World → Prop} {w1 : World} {a : Act} (w0 : World) (hm : P.follows .mixedOrders = true) (hS : S w1.drew) (hG : Below w0.heap.size w0 w1.drew)
    (h : ∀ X, S X → Below w0.heap.size w0 X → wpAnyH P .any ops Q S ops.size (Array.replicate ops.size false) a X) : (Code.region id ops true).wp P Q a w1 :=
  wp_region_held_drew hm hS (fun hS' => h _ hS' hG)
theorem RowIs.bel {W W' : World} {g : Nat} {t : TypeId} {cs : Array Value} (h : RowIs W g t cs) (k : Below W.heap.size W W') : RowIs W' g t cs := RowIs.below h h.lt k
theorem rowsBel0 {W W' : World} (h : True) (k : Below W.heap.size W W') : True := trivial
theorem rowsBel1 {W W' : World} {g1 : Nat} {t1 : TypeId} {c1 : Array Value} (h : RowIs W g1 t1 c1) (k : Below W.heap.size W W') : RowIs W' g1 t1 c1 := h.bel k
theorem rowsBel2 {W W' : World} {g1 g2 : Nat} {t1 t2 : TypeId} {c1 c2 : Array Value} (h : RowIs W g1 t1 c1 ∧ RowIs W g2 t2 c2) (k : Below W.heap.size W W') : RowIs W' g1 t1 c1 ∧ RowIs W' g2 t2 c2 := ⟨h.1.bel k, rowsBel1 h.2 k⟩
theorem rowsBel3 {W W' : World} {g1 g2 g3 : Nat} {t1 t2 t3 : TypeId} {c1 c2 c3 : Array Value} (h : RowIs W g1 t1 c1 ∧ RowIs W g2 t2 c2 ∧ RowIs W g3 t3 c3) (k : Below W.heap.size W W') : RowIs W' g1 t1 c1 ∧ RowIs W' g2 t2 c2 ∧ RowIs W' g3 t3 c3 := ⟨h.1.bel k, rowsBel2 h.2 k⟩
theorem rowsBel4 {W W' : World} {g1 g2 g3 g4 : Nat} {t1 t2 t3 t4 : TypeId} {c1 c2 c3 c4 : Array Value} (h : RowIs W g1 t1 c1 ∧ RowIs W g2 t2 c2 ∧ RowIs W g3 t3 c3 ∧ RowIs W g4 t4 c4) (k : Below W.heap.size W W') : RowIs W' g1 t1 c1 ∧ RowIs W' g2 t2 c2 ∧ RowIs W' g3 t3 c3 ∧ RowIs W' g4 t4 c4 := ⟨h.1.bel k, rowsBel3 h.2 k⟩
theorem rowsBel5 {W W' : World} {g1 g2 g3 g4 g5 : Nat} {t1 t2 t3 t4 t5 : TypeId} {c1 c2 c3 c4 c5 : Array Value} (h : RowIs W g1 t1 c1 ∧ RowIs W g2 t2 c2 ∧ RowIs W g3 t3 c3 ∧ RowIs W g4 t4 c4 ∧ RowIs W g5 t5 c5) (k : Below W.heap.size W W') : RowIs W' g1 t1 c1 ∧ RowIs W' g2 t2 c2 ∧ RowIs W' g3 t3 c3 ∧ RowIs W' g4 t4 c4 ∧ RowIs W' g5 t5 c5 := ⟨h.1.bel k, rowsBel4 h.2 k⟩
theorem rowsBel6 {W W' : World} {g1 g2 g3 g4 g5 g6 : Nat} {t1 t2 t3 t4 t5 t6 : TypeId} {c1 c2 c3 c4 c5 c6 : Array Value} (h : RowIs W g1 t1 c1 ∧ RowIs W g2 t2 c2 ∧ RowIs W g3 t3 c3 ∧ RowIs W g4 t4 c4 ∧ RowIs W g5 t5 c5 ∧ RowIs W g6 t6 c6) (k : Below W.heap.size W W') : RowIs W' g1 t1 c1 ∧ RowIs W' g2 t2 c2 ∧ RowIs W' g3 t3 c3 ∧ RowIs W' g4 t4 c4 ∧ RowIs W' g5 t5 c5 ∧ RowIs W' g6 t6 c6 := ⟨h.1.bel k, rowsBel5 h.2 k⟩

end Go.Proofs.Ytikkmdbaekdolaa

/- A STORE OF A WHOLE ROW: the world behind it under a name, with what is known of it. -/
namespace Go.Proofs.Ytikkmdbaekdolaa
open Go.RowKit
set_option linter.unusedVariables false
set_option maxRecDepth 100000

theorem setRow_heap (W : World) (g : Nat) (new : Array Value) (k : Nat) : (W.setRow g new).heap[k]? = if g = k then (W.heap[k]?).map (fun | .cells _ elem fr => .cells new elem fr | o => o) else W.heap[k]? := by
  show (W.heap.modify g _)[k]? = _
  rw [Array.getElem?_modify]
  by_cases h : g = k
  · rw [if_pos h, if_pos h]
    congr 1
  · rw [if_neg h, if_neg h]
theorem RowIs.set {W : World} {g : Nat} {t : TypeId} {old : Array Value} (h : RowIs W g t old) (new : Array Value) : RowIs (W.setRow g new) g t new := by
  have h' : W.heap[g]? = some (.cells old t (0, 0)) := h
  show (W.setRow g new).heap[g]? = _
  rw [setRow_heap, if_pos rfl, h']
  rfl
theorem RowIs.other {W : World} {g g' : Nat} {t : TypeId} {cs : Array Value} (h : RowIs W g' t cs) (new : Array Value) (hne : g ≠ g') : RowIs (W.setRow g new) g' t cs := by
  have h' : W.heap[g']? = some (.cells cs t (0, 0)) := h
  show (W.setRow g new).heap[g']? = _
  rw [setRow_heap, if_neg hne]
  exact h'
theorem setRow_below {W w0 : World} {B g : Nat} (h : Below B w0 W) (hg : B ≤ g) (new : Array Value) : Below B w0 (W.setRow g new) := by
  obtain ⟨h1, h2, h3, h4, h5⟩ := h
  refine ⟨h1, h2, h3, ?_, fun k hk => ?_⟩
  · show _ ≤ (W.heap.modify g _).size
    rw [Array.size_modify]
    exact h4
  · rw [setRow_heap, if_neg (by omega)]
    exact h5 k hk

/-- what a store of a whole row leaves -/
structure Stored (W W' : World) (g : Nat) (t : TypeId) (new : Array Value) : Prop where
  row : RowIs W' g t new
  other : ∀ {g' : Nat} {t' : TypeId} {cs : Array Value}, RowIs W g' t' cs → g ≠ g' → RowIs W' g' t' cs
  below : ∀ {w0 : World} {B : Nat}, Below B w0 W → B ≤ g → Below B w0 W'

theorem wpList_store_abs {P : Program} {ops : Array Oper} {rest : List Oper} {o : Oper} {a : Act} {w : World} {Q : Exit → Act → World → Prop} (hgd : o.guard = none) (ty : TypeId) (x y : Operand) (ho : o.op = .store ty x y)
    (g : Nat) (cells : Array Value) (hx : a.eval x = .pointer (some ⟨g, 0, none⟩)) (hy : a.eval y = .agg cells)
    (t : TypeId) (old : Array Value) (hg : RowIs w g t old) (hi : (P.info? ty).map (·.size) = some cells.size)
    (hold : old.size = cells.size) (h1 : cells.all (·.oneCell') = true)
    (h : ∀ W', Stored w W' g t cells → wpList P ops Q rest (a.put o.dst undef) W') : wpList P ops Q (o :: rest) a w :=
  wpList_store_row hgd ty x y ho g cells hx hy t old hg hi hold h1 (h _ ⟨hg.set cells, fun h hne => h.other cells hne, fun h hB => setRow_below h hB cells⟩)

/-- a load of a whole row, where a region only reads -/
theorem wpStill_load_row {P : Program} {ops : Array Oper} {w : World} {Q : Act → Prop} {a : Act} {o : Oper} {rest : List Oper} (hw : Region.wanted o (yielded ops a.tmps) = true) (ty : TypeId) (x : Operand) (ho : o.op = .load ty x)
    (g : Nat) (hx : a.eval x = .pointer (some ⟨g, 0, none⟩)) (t : TypeId) (cs : Array Value) (d : TypeDesc) (hg : RowIs w g t cs)
    (hu : P.underlying ty = some d) (hd : (match d with | .struct _ | .array _ _ => true | _ => false) = true) (hi : (P.info? ty).map (·.size) = some cs.size)
    (h : wpStill P ops w Q rest (a.put o.dst (.agg cs))) : wpStill P ops w Q (o :: rest) a := by
  unfold wpStill
  rw [hw, if_pos rfl]
  unfold Oper.still
  rw [exec_load_row ty x ho g hx t cs _ d hg hu hd hi, Oper.stillUpon_value]
  exact h
theorem RowIs.drew {W : World} {g : Nat} {t : TypeId} {cs : Array Value} (h : RowIs W g t cs) : RowIs W.drew g t cs := h

end Go.Proofs.Ytikkmdbaekdolaa

/- packets that came, as a row that is read: the first one of a number; how many bytes, each number once: package judge's Bytes, and the reference's. -/
namespace Go.Proofs.Ytikkmdbaekdolaa
open Go.RowKit Go.Lib Go.Maps
set_option linter.unusedVariables false
set_option maxRecDepth 100000

/-- a packet as it lies in memory -/
structure DatP where
  pn : Int
  least : Int
  off : Int
  x : Int
  ecn : Int
  a : Option Addr
  L : Nat
  c : Nat
def zD : DatP := ⟨0, 0, 0, 0, 0, none, 0, 0⟩
def datV (d : DatP) : Value := .agg #[.int .u64 d.pn, .int .u64 d.least, .int .u64 d.off, .int .u64 d.x, .int .i64 d.ecn, .slice d.a d.L d.c]

@[simp, go_sem] theorem datV_eq (d : DatP) : datV d = .agg #[.int .u64 d.pn, .int .u64 d.least, .int .u64 d.off, .int .u64 d.x, .int .i64 d.ecn, .slice d.a d.L d.c] := rfl

/-- the row lies there -/
def CameAt (w : World) (g o : Nat) (l : List DatP) : Prop := g < w.heap.size ∧ ∀ i, i < l.length →
  w.cell? ⟨g, o + i * 6, none⟩ = some (.int .u64 (l.getD i zD).pn) ∧ w.cell? ⟨g, o + i * 6 + 1, none⟩ = some (.int .u64 (l.getD i zD).least) ∧ w.cell? ⟨g, o + i * 6 + 2, none⟩ = some (.int .u64 (l.getD i zD).off) ∧
  w.cell? ⟨g, o + i * 6 + 3, none⟩ = some (.int .u64 (l.getD i zD).x) ∧ w.cell? ⟨g, o + i * 6 + 4, none⟩ = some (.int .i64 (l.getD i zD).ecn) ∧ w.cell? ⟨g, o + i * 6 + 5, none⟩ = some (.slice (l.getD i zD).a (l.getD i zD).L (l.getD i zD).c)
theorem CameAt.below {w w' : World} {g o : Nat} {l : List DatP} (h : CameAt w g o l) (hb : Below w.heap.size w w') : CameAt w' g o l := by
  refine ⟨Nat.lt_of_lt_of_le h.1 hb.size, fun i hi => ?_⟩
  obtain ⟨h0, h1, h2, h3, h4, h5⟩ := h.2 i hi
  exact ⟨(hb.cell (p := ⟨g, o + i * 6, none⟩) h.1).trans h0, (hb.cell (p := ⟨g, o + i * 6 + 1, none⟩) h.1).trans h1, (hb.cell (p := ⟨g, o + i * 6 + 2, none⟩) h.1).trans h2, (hb.cell (p := ⟨g, o + i * 6 + 3, none⟩) h.1).trans h3, (hb.cell (p := ⟨g, o + i * 6 + 4, none⟩) h.1).trans h4, (hb.cell (p := ⟨g, o + i * 6 + 5, none⟩) h.1).trans h5⟩
theorem below_grownC {B : Nat} {a w w' : World} {row : Option Nat} (h : Below B a w) (hg : w.grownBy w' row) (hB : B ≤ w.heap.size) (hr : ∀ k, row = some k → B ≤ k) : Below B a w' :=
  h.trans ⟨hg.os, hg.tape, hg.output, hg.size, fun k hk => hg.block k (by omega) (fun e => by have := hr k e.symm; omega)⟩
/-- nil, or a row that lies there -/
def CRow (w : World) (x : Option Addr) (l : List DatP) : Prop := l = [] ∨ ∃ g o, x = some ⟨g, o, none⟩ ∧ CameAt w g o l
theorem CRow.below {w w' : World} {x : Option Addr} {l : List DatP} (h : CRow w x l) (hb : Below w.heap.size w w') : CRow w' x l := by
  rcases h with h | ⟨g, o, h, k⟩
  · exact .inl h
  · exact .inr ⟨g, o, h, k.below hb⟩
/-- the words and the lengths fit -/
def CFit (l : List DatP) : Prop := ∀ i, i < l.length → W64 (l.getD i zD).pn ∧ (l.getD i zD).L ≤ 9223372036854775807

/-- is there one of that number among the first n? -/
def seenB (l : List DatP) : Nat → Int → Bool
  | 0, _ => false
  | n + 1, p => seenB l n p || decide ((l.getD n zD).pn = p)
/-- the first of them -/
def firstD (l : List DatP) : Nat → Int → DatP
  | 0, _ => zD
  | n + 1, p => if seenB l n p = true then firstD l n p else if (l.getD n zD).pn = p then l.getD n zD else zD
/-- how many bytes, each number once -/
def sumC (l : List DatP) : Nat → Int
  | 0 => 0
  | n + 1 => if seenB l n (l.getD n zD).pn = true then sumC l n else addI (sumC l n) (l.getD n zD).L
theorem sumC_W (l : List DatP) : ∀ n, W64 (sumC l n)
  | 0 => (show W64 0 from Wlit (by omega))
  | n + 1 => by
    have h := sumC_W l n
    unfold sumC
    split
    · exact h
    · unfold addI W64 at *
      omega

theorem litW {a : Int} (h : W64 a) : (Lit.int .u64 a).wf = true := by
  unfold W64 at h
  simp [Lit.wf, IntKind.min, IntKind.max, IntKind.signed, IntKind.bits]
  omega

/-! ### a map of bools that the call makes -/
theorem plainElem_bool_inv {H : Type} {P : Program} {e : TypeId} (he : P.underlying e = some .bool) {v : Value} {z : DataW H × List MemPlace} (h : plainElem P e v = some z) : ∃ a, v = .bool a ∧ z = (.lit (.bool a), []) := by
  unfold plainElem at h
  rw [he] at h
  cases v <;> simp at h
  exact ⟨_, rfl, h.symm⟩
theorem wpList_lookup_own_bool {H : Type} {P : Program} (w : World) {ops : Array Oper} {rest : List Oper} {o : Oper} {a : Act} {Q : Exit → Act → World → Prop}
    (hg : o.guard = none) (m x : Operand) (t : TypeId) (hop : o.op = Op.lookup t m x false)
    (k e : TypeId) (K : Keyed P k) (ht : P.underlying t = some (.map k e)) (he : P.underlying e = some .bool) (hz : (zeroValue e).run P w = .ok (.bool false) w) (b n : Nat) (D : DataW H)
    (hm : a.eval m = .map (some b)) (hown : w.ownsMap P k (plainElem P e) b n D) (key : Value) (kl : Lit) (hx : a.eval x = key) (hkey : keyOf P k key = some kl) (c : Bool) (hc : D.atKey kl (.lit (.bool false)) = .lit (.bool c))
    (h : wpList P ops Q rest (a.put o.dst (.bool c)) w) : wpList P ops Q (o :: rest) a w := by
  refine wpList_plain hg fun K' hK' => ?_
  obtain ⟨v, ps, hrun, hv⟩ := hown.lookup K ht hz (plainElem_bool he false) hkey
  obtain ⟨c', rfl, hc'⟩ := plainElem_bool_inv he hv
  simp only [Prod.mk.injEq] at hc'
  rw [hc] at hc'
  have e1 : c = c' := by have := hc'.1; simpa using this
  subst e1
  unfold Oper.wp
  simp [execOp, hop, hm, hx, hrun, Result.andThen]
  exact hK' _ _ h

/-- the map holds what was seen -/
def SeenD (D : DataW Unit) (l : List DatP) (n : Nat) : Prop := IsMap D ∧ ∀ x, D.atKey (.int .u64 x) (.lit (.bool false)) = .lit (.bool (seenB l n x))
theorem SeenD.start (l : List DatP) : SeenD (.map []) l 0 := ⟨isMap_empty, fun x => rfl⟩
theorem SeenD.skip {D : DataW Unit} {l : List DatP} {n : Nat} (h : SeenD D l n) (hs : seenB l n (l.getD n zD).pn = true) : SeenD D l (n + 1) := by
  refine ⟨h.1, fun x => ?_⟩
  rw [h.2 x]
  congr 2
  show _ = (seenB l n x || decide ((l.getD n zD).pn = x))
  by_cases e : (l.getD n zD).pn = x
  · rw [← e, hs]; rfl
  · rw [decide_eq_false e, Bool.or_false]
theorem SeenD.put {D : DataW Unit} {l : List DatP} {n : Nat} (h : SeenD D l n) : SeenD (D.put (.int .u64 (l.getD n zD).pn) (.lit (.bool true))) l (n + 1) := by
  refine ⟨h.1.put _ _, fun x => ?_⟩
  by_cases e : (l.getD n zD).pn = x
  · subst e
    rw [atKey_put_same h.1 (show WideAt.IsKeyLit (.int .u64 (l.getD n zD).pn) from trivial)]
    show _ = DataW.lit (.bool (seenB l n (l.getD n zD).pn || decide ((l.getD n zD).pn = (l.getD n zD).pn)))
    rw [decide_eq_true rfl, Bool.or_true]
  · rw [atKey_put_other (fun h => e (by injection h with _ h1; exact h1.symm)), h.2 x]
    show _ = DataW.lit (.bool (seenB l n x || decide ((l.getD n zD).pn = x)))
    rw [decide_eq_false e, Bool.or_false]

theorem keyed22 : Keyed Try.prog 22 := int_keyed Try.underlying22
theorem zero4 (w : World) : (zeroValue 4).run Try.prog w = .ok (.bool false) w := by kernel_rfl

theorem CRow.at {w : World} {x : Option Addr} {l : List DatP} (h : CRow w x l) (k : Nat) (hk : k < l.length) : ∃ g o, x = some ⟨g, o, none⟩ ∧ CameAt w g o l := by
  rcases h with h | h
  · subst h; simp at hk
  · exact h

set_option maxHeartbeats 2000000 in
theorem jBytesSome (g o c : Nat) (l : List DatP) (hf : CFit l) (hl : l.length ≤ 1000000) (w : World) (hC : CameAt w g o l) :
    Calls Try.prog 47 #[.slice (some ⟨g, o, none⟩) l.length c] w fun e w' => e = .returned (.int .u64 (sumC l l.length)) ∧ Below w.heap.size w w' := by
  have hmm := @run_makeMap Try.prog
  have hg := hC.1
  have HC := Lib.hid hC
  have HF := Lib.hid hf
  have hli : (l.length : Int) ≤ 1000000 := by omega
  clear hf hC
  go_enter Try.func47, Try.ntmps47
  go_wp2_with fail
  go_loopw [3, 10] (fun n i wr => ∃ (k : Nat) (D : DataW Unit), i = .int .i64 (k : Int) ∧ k ≤ l.length ∧ n = .int .u64 (sumC l k) ∧ wr.ownsMap Try.prog 22 (plainElem Try.prog 4) w.heap.size k D ∧ SeenD D l k ∧ Below w.heap.size w wr) (fun _ i _ => (l.length - intOf i).toNat)
  case atStart => exact ⟨0, _, by first | rfl | simp, by omega, by first | rfl | simp [sumC], World.ownsMap_made _ _ _ _, SeenD.start l, (Below.refl _ _).alloc (Nat.le_refl _) _⟩
  case round =>
    obtain ⟨k, D, rfl, hk, rfl, hown, hseen, hbel⟩ := hrel
    have HBel := Lib.hid hbel
    have HS := Lib.hid hseen
    have hsz := hown.lt
    clear hseen hbel
    by_cases hlt : k < l.length
    · have hltI : (k : Int) < (l.length : Int) := by omega
      obtain ⟨h0, h1, h2, h3, h4, h5⟩ := (HC.out.below HBel.out).2 k hlt
      have hg2 : g < wr.heap.size := Nat.lt_of_lt_of_le hg HBel.out.size
      have hw := HF.out k hlt
      have HN := Lib.hid (sumC_W l k)
      have HW := Lib.hid (show sumC l (k + 1) = if seenB l k (l.getD k zD).pn = true then sumC l k else addI (sumC l k) (l.getD k zD).L from rfl)
      have hat := HS.out.2 (l.getD k zD).pn
      have HNX := Lib.hid HS.out
      have hL0 : (0 : Int) ≤ ((l.getD k zD).L : Int) := by omega
      have hL1 : ((l.getD k zD).L : Int) ≤ 9223372036854775807 := by omega
      have hkey : keyOf Try.prog 22 (.int .u64 (l.getD k zD).pn) = some (.int .u64 (l.getD k zD).pn) := keyOf_int_mk Try.underlying22 (litW hw.1)
      generalize hd : l.getD k zD = d at *
      cases hs : seenB l k d.pn
      · rw [hs] at hat
        have HW2 := Lib.hid (HW.out.trans (by rw [if_neg (by rw [hs]; decide)]))
        have HSS := Lib.hid hd
        clear hs hd HW
        have hown1 := hown.alloc (.cells #[.int .u64 d.pn, .int .u64 d.least, .int .u64 d.off, .int .u64 d.x, .int .i64 d.ecn, .slice d.a d.L d.c] 82 (0, 0))
        have HAT := Lib.hid hat
        have HOWN := Lib.hid hown1
        clear hat hown hown1
        go_wp2_with (first
          | (at_lookup; refine wpList_lookup_own_bool _ rfl _ _ 147 rfl 22 4 keyed22 Try.underlying147 Try.underlying4 (zero4 _) w.heap.size k D rfl HOWN.out _ _ rfl hkey false HAT.out ?_)
          | (at_mapUpdate; refine wpList_mapUpdate_own _ rfl _ _ _ 147 rfl 22 4 keyed22 Try.underlying147 _ w.heap.size k D rfl HOWN.out (by unfold maxLen; omega) _ _ _ rfl rfl hkey (.lit (.bool true)) [] (plainElem_bool Try.underlying4 true) ?_; intro w1 hown2 hgrow1; have c5 : w1.cell? ⟨wr.heap.size, 5, none⟩ = some (.slice d.a d.L d.c) := ((World.cell?_of_block (a := ⟨wr.heap.size, 5, none⟩) (hgrow1.block wr.heap.size (by simp) (fun e => by injection e with e; omega))).trans (by go_simp)); have HO2 := Lib.hid hown2; have HG1 := Lib.hid hgrow1; clear hown2 hgrow1))
        refine (sAdd (sumC l k) d.L HN.out ⟨hL0, by omega⟩ _).mono ?_; rintro e' w' ⟨rfl, rfl⟩
        go_wp2_with fail
        go_roundw
        case rel => exact ⟨k + 1, _, by congr 1, by omega, by rw [HW2.out], HO2.out, by have := HNX.out.put; rw [HSS.out] at this; exact this, below_grownC ((HBel.out).alloc HBel.out.size _) HG1.out (by simp; have := HBel.out.size; omega) (fun k hk => by cases hk; exact Nat.le_refl _)⟩
        case measure => simp only [intOf]; omega
      · rw [hs] at hat
        have HW2 := Lib.hid (HW.out.trans (by rw [if_pos hs]))
        have HSS := Lib.hid hd
        have HSB := Lib.hid hs
        clear hs hd HW
        have hown1 := hown.alloc (.cells #[.int .u64 d.pn, .int .u64 d.least, .int .u64 d.off, .int .u64 d.x, .int .i64 d.ecn, .slice d.a d.L d.c] 82 (0, 0))
        have HAT := Lib.hid hat
        have HOWN := Lib.hid hown1
        clear hat hown hown1
        go_wp2_with (at_lookup; refine wpList_lookup_own_bool _ rfl _ _ 147 rfl 22 4 keyed22 Try.underlying147 Try.underlying4 (zero4 _) w.heap.size k D rfl HOWN.out _ _ rfl hkey true HAT.out ?_)
        go_roundw
        case rel => exact ⟨k + 1, D, by congr 1, by omega, by rw [HW2.out], HOWN.out.mono (Nat.le_succ _), HNX.out.skip (by rw [HSS.out]; exact HSB.out), (HBel.out).alloc HBel.out.size _⟩
        case measure => simp only [intOf]; omega
    · have hd : decide ((k : Int) < (l.length : Int)) = false := by rw [decide_eq_false_iff_not]; omega
      have e : k = l.length := by omega
      have E := Lib.hid (congrArg (sumC l) e)
      clear e
      go_wp2_with fail
      go_ret
      exact ⟨ret_int E.out, HBel.out⟩

set_option maxHeartbeats 1000000 in
theorem jBytes0 (x : Option Addr) (c : Nat) (w : World) :
    Calls Try.prog 47 #[.slice x 0 c] w fun e w' => e = .returned (.int .u64 0) ∧ Below w.heap.size w w' := by
  have hmm := @run_makeMap Try.prog
  go_enter Try.func47, Try.ntmps47
  go_wp2_with fail
  refine wp_loop_rounds 1 ?_; rw [rounds_succ]
  go_wp2_with fail
  go_ret
  exact ⟨rfl, (Below.refl _ _).alloc (Nat.le_refl _) _⟩

theorem jBytes (x : Option Addr) (c : Nat) (l : List DatP) (hf : CFit l) (hl : l.length ≤ 1000000) (w : World) (hC : CRow w x l) :
    Calls Try.prog 47 #[.slice x l.length c] w fun e w' => e = .returned (.int .u64 (sumC l l.length)) ∧ Below w.heap.size w w' := by
  rcases hC with rfl | ⟨g, o, rfl, h⟩
  · exact jBytes0 x c w
  · exact jBytesSome g o c l hf hl w h

/-! ### the reference's -/
theorem seenB_step {l : List DatP} {n : Nat} {p : Int} (h : seenB l n p = false) (e : ¬ (l.getD n zD).pn = p) : seenB l (n + 1) p = false := by
  show (seenB l n p || decide ((l.getD n zD).pn = p)) = false
  rw [h, decide_eq_false e]
  rfl
theorem seenB_hit {l : List DatP} {n : Nat} {p : Int} (e : (l.getD n zD).pn = p) : seenB l (n + 1) p = true := by
  show (seenB l n p || decide ((l.getD n zD).pn = p)) = true
  rw [decide_eq_true e, Bool.or_true]
theorem seenB_mono {l : List DatP} {p : Int} : ∀ {n m : Nat}, seenB l n p = true → n ≤ m → seenB l m p = true := by
  intro n m h hm
  induction m with
  | zero => obtain rfl : n = 0 := by omega
            exact h
  | succ m ih =>
    rcases (by omega : n = m + 1 ∨ n ≤ m) with rfl | h2
    · exact h
    · show (seenB l m p || _) = true
      rw [ih h2]
      rfl
theorem firstD_none {l : List DatP} {p : Int} : ∀ {n : Nat}, seenB l n p = false → firstD l n p = zD
  | 0, _ => rfl
  | n + 1, h => by
    have h1 : seenB l n p = false := by
      cases h2 : seenB l n p
      · rfl
      · rw [seenB_mono h2 (Nat.le_succ n)] at h; cases h
    have h2 : ¬ (l.getD n zD).pn = p := fun e => by rw [seenB_hit e] at h; cases h
    unfold firstD
    rw [if_neg (by rw [h1]; decide), if_neg h2]
theorem firstD_hit {l : List DatP} {n : Nat} {p : Int} (h : seenB l n p = false) (e : (l.getD n zD).pn = p) : ∀ m, n < m → firstD l m p = l.getD n zD
  | 0, hm => by omega
  | m + 1, hm => by
    unfold firstD
    rcases (by omega : n = m ∨ n < m) with rfl | h2
    · rw [if_neg (by rw [h]; decide), if_pos e]
    · rw [if_pos (seenB_mono (seenB_hit e) h2), firstD_hit h e m h2]

set_option maxHeartbeats 2000000 in
theorem qFirstSome (g o c n : Nat) (l : List DatP) (hl : l.length ≤ 1000000) (hn : n ≤ l.length) (p : Int) (w : World) (hC : CameAt w g o l) (B : Bool) (d : DatP) (hB : seenB l n p = B) (hd : firstD l n p = d) :
    Calls Try.prog 81 #[.slice (some ⟨g, o, none⟩) n c, .int .u64 p] w fun e w' => e = .returned (.tuple #[datV d, .bool B]) ∧ Gr w w' := by
  have hg := hC.1
  have HC := Lib.hid hC
  have HB := Lib.hid hB
  have HD := Lib.hid hd
  have hni : (n : Int) ≤ 1000000 := by omega
  clear hC hB hd
  go_enter Try.func81, Try.ntmps81
  go_wp2_with fail
  go_loop [6] (fun i => ∃ k : Nat, i = .int .i64 (k : Int) ∧ k ≤ n ∧ seenB l k p = false) (fun i => (n - intOf i).toNat)
  case atStart => exact ⟨0, rfl, by omega, rfl⟩
  case round =>
    obtain ⟨k, rfl, hk, hs⟩ := hrel
    have HS := Lib.hid hs
    clear hs
    by_cases hlt : k < n
    · have hltI : (k : Int) < (n : Int) := by omega
      obtain ⟨h0, h1, h2, h3, h4, h5⟩ := HC.out.2 k (by omega)
      generalize he : l.getD k zD = dk at h0 h1 h2 h3 h4 h5
      by_cases hp : dk.pn = p
      · have HP := Lib.hid (show (l.getD k zD).pn = p by rw [he]; exact hp)
        have HE := Lib.hid he
        have hpe : (dk.pn == p) = true := by rw [hp]; simp
        have HF : Hid (firstD l n p = dk) := (firstD_hit HS.out HP.out n hlt).trans he
        have HG : Hid (seenB l n p = true) := seenB_mono (seenB_hit HP.out) hlt
        have ED : Hid (d = dk) := HD.out.symm.trans HF.out
        have EB : Hid (B = true) := HB.out.symm.trans HG.out
        clear hp he
        go_wp2_with fail
        refine bodyPost_ret (v := .tuple #[datV dk, .bool true]) (by simp [results, datV, Try.results81, go_sem]) rfl ⟨by (rw [ED.out, EB.out]; try rfl), ?_⟩
        repeat (first | exact Gr.refl _ | apply Gr.drewN | apply Gr.drew | apply Gr.gw | apply Gr.alloc)
      · have HP := Lib.hid (show ¬ (l.getD k zD).pn = p by rw [he]; exact hp)
        have hpe : (dk.pn == p) = false := by rw [beq_eq_false_iff_ne]; exact hp
        clear hp he
        go_wp2_with fail
        go_round
        case rel => exact ⟨k + 1, by congr 1, by omega, seenB_step HS.out HP.out⟩
        case measure => simp only [intOf]; omega
    · have hd : decide ((k : Int) < (n : Int)) = false := by rw [decide_eq_false_iff_not]; omega
      have e : k = n := by omega
      have HS2 : Hid (seenB l n p = false) := by rw [← e]; exact HS
      have ED : Hid (d = zD) := HD.out.symm.trans (firstD_none HS2.out)
      have EB : Hid (B = false) := HB.out.symm.trans HS2.out
      clear e HS
      go_wp2_with fail
      refine bodyPost_ret (v := .tuple #[datV zD, .bool false]) (by simp [results, datV, zD, Try.results81, go_sem]) rfl ⟨by (rw [ED.out, EB.out]; try rfl), ?_⟩
      repeat (first | exact Gr.refl _ | apply Gr.drewN | apply Gr.drew | apply Gr.gw | apply Gr.alloc)

end Go.Proofs.Ytikkmdbaekdolaa

/- the reference's Bytes: how many bytes came, each number once. -/
namespace Go.Proofs.Ytikkmdbaekdolaa
open Go.RowKit Go.Lib Go.Maps
set_option linter.unusedVariables false
set_option maxRecDepth 100000

set_option maxHeartbeats 4000000 in
theorem qBytesSome (g o c : Nat) (l : List DatP) (hf : CFit l) (hl : l.length ≤ 1000000) (hcap : l.length ≤ c) (hc9 : c ≤ 9223372036854775807) (w : World) (hC : CameAt w g o l) :
    Calls Try.prog 48 #[.slice (some ⟨g, o, none⟩) l.length c] w fun e w' => e = .returned (.int .u64 (sumC l l.length)) ∧ Gr w w' := by
  have hg := hC.1
  have HC := Lib.hid hC
  have HF := Lib.hid hf
  have hli : (l.length : Int) ≤ 1000000 := by omega
  have hci : (c : Int) ≤ 9223372036854775807 := by omega
  clear hf hC
  go_enter Try.func48, Try.ntmps48
  go_wp2_with fail
  go_loopw [3, 4] (fun n i wr => ∃ k : Nat, i = .int .i64 (k : Int) ∧ k ≤ l.length ∧ n = .int .u64 (sumC l k) ∧ Gr w wr) (fun _ i _ => (l.length - intOf i).toNat)
  case atStart => exact ⟨0, by first | rfl | simp, by omega, by first | rfl | simp [sumC], Gr.refl _⟩
  case round =>
    obtain ⟨k, rfl, hk, rfl, hG⟩ := hrel
    by_cases hlt : k < l.length
    · have hltI : (k : Int) < (l.length : Int) := by omega
      have hkc : (k : Int) ≤ (c : Int) := by omega
      obtain ⟨h0, h1, h2, h3, h4, h5⟩ := (HC.out.below hG.below).2 k hlt
      have hg2 : g < wr.heap.size := Nat.lt_of_lt_of_le hg hG.size
      have hg3 : ∀ s : Nat, g < wr.heap.size + s := fun s => by omega
      have hg4 : ∀ s t : Nat, g < wr.heap.size + s + t := fun s t => by omega
      have hw := HF.out k hlt
      have HN := Lib.hid (sumC_W l k)
      have HW := Lib.hid (show sumC l (k + 1) = if seenB l k (l.getD k zD).pn = true then sumC l k else addI (sumC l k) (l.getD k zD).L from rfl)
      have hL0 : (0 : Int) ≤ ((l.getD k zD).L : Int) := by omega
      have hL1 : ((l.getD k zD).L : Int) ≤ 9223372036854775807 := by omega
      generalize hd : l.getD k zD = d at *
      obtain ⟨q, hq⟩ : ∃ q, firstD l k d.pn = q := ⟨_, rfl⟩
      have HQ := Lib.hid hq
      clear hd hq h1 h2 h3 h4 hw
      cases hs : seenB l k d.pn
      · have HS := Lib.hid hs
        have HW2 := Lib.hid (HW.out.trans (by rw [if_neg (by rw [hs]; decide)]))
        clear hs HW
        go_wp2_with fail
        go_region_held3 (fun W => W.cell? ⟨g, o + k * 6, none⟩ = some (.int .u64 d.pn)) (first | go_simp | go_keep) (((with_reducible refine (qFirstSome g o c k l hl hk d.pn _ (CameAt.below HC.out (Gr.below (by repeat (first | assumption | exact Gr.refl _ | apply Gr.drewN | apply Gr.drew | apply Gr.gw | apply Gr.alloc)))) _ _ HS.out HQ.out).mono ?_); rintro e' w' ⟨rfl, nA, osA, rfl⟩))
        all_goals
          go_wp2_with fail
          refine (rAdd (sumC l k) d.L HN.out ⟨hL0, by omega⟩ _).mono ?_; rintro e' w' ⟨rfl, rfl⟩
          go_wp2_with fail
          go_roundw
          case rel => exact ⟨k + 1, by congr 1, by omega, by rw [HW2.out], by repeat (first | assumption | exact Gr.refl _ | apply Gr.drewN | apply Gr.drew | apply Gr.gw | apply Gr.alloc)⟩
          case measure => simp only [intOf]; omega
      · have HS := Lib.hid hs
        have HW2 := Lib.hid (HW.out.trans (by rw [if_pos hs]))
        clear hs HW
        go_wp2_with fail
        go_region_held3 (fun W => W.cell? ⟨g, o + k * 6, none⟩ = some (.int .u64 d.pn)) (first | go_simp | go_keep) (((with_reducible refine (qFirstSome g o c k l hl hk d.pn _ (CameAt.below HC.out (Gr.below (by repeat (first | assumption | exact Gr.refl _ | apply Gr.drewN | apply Gr.drew | apply Gr.gw | apply Gr.alloc)))) _ _ HS.out HQ.out).mono ?_); rintro e' w' ⟨rfl, nA, osA, rfl⟩))
        all_goals
          go_wp2_with fail
          go_roundw
          case rel => exact ⟨k + 1, by congr 1, by omega, by rw [HW2.out], by repeat (first | assumption | exact Gr.refl _ | apply Gr.drewN | apply Gr.drew | apply Gr.gw | apply Gr.alloc)⟩
          case measure => simp only [intOf]; omega
    · have hd : decide ((k : Int) < (l.length : Int)) = false := by rw [decide_eq_false_iff_not]; omega
      have e : k = l.length := by omega
      have E := Lib.hid (congrArg (sumC l) e)
      clear e
      go_wp2_with fail
      go_ret
      exact ⟨ret_int E.out, hG⟩

set_option maxHeartbeats 1000000 in
theorem qBytes0 (x : Option Addr) (c : Nat) (w : World) :
    Calls Try.prog 48 #[.slice x 0 c] w fun e w' => e = .returned (.int .u64 0) ∧ Gr w w' := by
  go_enter Try.func48, Try.ntmps48
  go_wp2_with fail
  refine wp_loop_rounds 1 ?_; rw [rounds_succ]
  go_wp2_with fail
  go_ret
  exact ⟨rfl, Gr.refl _⟩

theorem qBytes (x : Option Addr) (c : Nat) (l : List DatP) (hf : CFit l) (hl : l.length ≤ 1000000) (hcap : l.length ≤ c) (hc9 : c ≤ 9223372036854775807) (w : World) (hC : CRow w x l) :
    Calls Try.prog 48 #[.slice x l.length c] w fun e w' => e = .returned (.int .u64 (sumC l l.length)) ∧ Gr w w' := by
  rcases hC with rfl | ⟨g, o, rfl, h⟩
  · exact qBytes0 x c w
  · exact qBytesSome g o c l hf hl hcap hc9 w h

/-- a row twice over has no more bytes -/
theorem seenB_app (l k : List DatP) (p : Int) : ∀ n, n ≤ l.length → seenB (l ++ k) n p = seenB l n p
  | 0, _ => rfl
  | n + 1, hn => by
    have e : (l ++ k).getD n zD = l.getD n zD := by
      rw [List.getD_eq_getElem?_getD, List.getD_eq_getElem?_getD, List.getElem?_append_left (by omega)]
    unfold seenB
    rw [seenB_app l k p n (by omega), e]
theorem sumC_app (l k : List DatP) : ∀ n, n ≤ l.length → sumC (l ++ k) n = sumC l n
  | 0, _ => rfl
  | n + 1, hn => by
    have e : (l ++ k).getD n zD = l.getD n zD := by
      rw [List.getD_eq_getElem?_getD, List.getD_eq_getElem?_getD, List.getElem?_append_left (by omega)]
    unfold sumC
    rw [sumC_app l k n (by omega), e, seenB_app l k _ n (by omega)]
theorem sumC_twice (l : List DatP) : ∀ n, n ≤ l.length → sumC (l ++ l) (l.length + n) = sumC l l.length
  | 0, _ => sumC_app l l l.length (Nat.le_refl _)
  | n + 1, hn => by
    have e : (l ++ l).getD (l.length + n) zD = l.getD n zD := by
      rw [List.getD_eq_getElem?_getD, List.getD_eq_getElem?_getD, List.getElem?_append_right (by omega), Nat.add_sub_cancel_left]
    have h1 : seenB (l ++ l) (n + 1) (l.getD n zD).pn = true := seenB_hit (by rw [List.getD_eq_getElem?_getD, List.getElem?_append_left (by omega), ← List.getD_eq_getElem?_getD])
    have h2 : seenB (l ++ l) (l.length + n) (l.getD n zD).pn = true := seenB_mono h1 (by omega)
    rw [show sumC (l ++ l) (l.length + (n + 1)) = if seenB (l ++ l) (l.length + n) ((l ++ l).getD (l.length + n) zD).pn = true then sumC (l ++ l) (l.length + n) else addI (sumC (l ++ l) (l.length + n)) ((l ++ l).getD (l.length + n) zD).L from rfl, e, if_pos h2]
    exact sumC_twice l n (by omega)

end Go.Proofs.Ytikkmdbaekdolaa

/- package judge's Paced, and the reference's: do no more bytes go in any time than may? -/
namespace Go.Proofs.Ytikkmdbaekdolaa
open Go.RowKit Go.Lib
set_option linter.unusedVariables false
set_option maxRecDepth 100000

def wentI (S : Nat → Int) (i : Nat) : Nat → Int
  | 0 => 0
  | m + 1 => addI (wentI S i m) (S (i + m))
def rateI (R : Nat → Int) (i : Nat) : Nat → Int
  | 0 => 0
  | m + 1 => max (rateI R i m) (R (i + m))
/-- more than may, from the i-th row on for m + 1 of them -/
def overP (N R S : Nat → Int) (b : Int) (i m : Nat) : Prop := addI (mulI b 1000000) (mulI (rateI R i (m + 1)) (subI (N (i + m)) (N i))) < mulI (wentI S i (m + 1)) 1000000
def pacedP (N R S : Nat → Int) (b : Int) (n : Nat) : Prop := ∀ i m, i + m < n → ¬ overP N R S b i m
theorem wentI_W (S : Nat → Int) (n i : Nat) (h : ∀ k, k < n → W64 (S k)) : ∀ m, i + m ≤ n → W64 (wentI S i m)
  | 0, _ => (show W64 0 from Wlit (by omega))
  | m + 1, hm => addI_W _ _ (wentI_W S n i h m (by omega)) (h _ (by omega))
theorem rateI_W (R : Nat → Int) (n i : Nat) (h : ∀ k, k < n → W64 (R k)) : ∀ m, i + m ≤ n → W64 (rateI R i m)
  | 0, _ => (show W64 0 from Wlit (by omega))
  | m + 1, hm => by
    have h1 := rateI_W R n i h m (by omega)
    have h2 := h (i + m) (by omega)
    show W64 (max (rateI R i m) (R (i + m)))
    unfold W64 at *
    omega

/-- rows of a world's tale, the two cells of each that are looked at -/
def RowsAt (w : World) (g o n : Nat) (N R : Nat → Int) : Prop := g < w.heap.size ∧ ∀ i, i < n → w.cell? ⟨g, o + i * 22 + 1, none⟩ = some (.int .u64 (N i)) ∧ w.cell? ⟨g, o + i * 22 + 10, none⟩ = some (.int .u64 (R i))
theorem RowsAt.below {w w' : World} {g o n : Nat} {N R : Nat → Int} (h : RowsAt w g o n N R) (hb : Below w.heap.size w w') : RowsAt w' g o n N R :=
  ⟨Nat.lt_of_lt_of_le h.1 hb.size, fun i hi => ⟨(hb.cell (p := ⟨g, o + i * 22 + 1, none⟩) h.1).trans (h.2 i hi).1, (hb.cell (p := ⟨g, o + i * 22 + 10, none⟩) h.1).trans (h.2 i hi).2⟩⟩
def WordsAt (w : World) (g o n : Nat) (S : Nat → Int) : Prop := g < w.heap.size ∧ ∀ i, i < n → w.cell? ⟨g, o + i, none⟩ = some (.int .u64 (S i))
theorem WordsAt.below {w w' : World} {g o n : Nat} {S : Nat → Int} (h : WordsAt w g o n S) (hb : Below w.heap.size w w') : WordsAt w' g o n S :=
  ⟨Nat.lt_of_lt_of_le h.1 hb.size, fun i hi => (hb.cell (p := ⟨g, o + i, none⟩) h.1).trans (h.2 i hi)⟩

set_option maxHeartbeats 4000000 in
theorem jPacedSome (g o c h p d n : Nat) (N R S : Nat → Int) (b : Int) (hn : n ≤ 1000000) (hb : W64 b) (hN : ∀ i, i < n → W64 (N i)) (hR : ∀ i, i < n → W64 (R i)) (hS : ∀ i, i < n → W64 (S i)) (B : Bool) (hB : B = true ↔ pacedP N R S b n) (w : World) (hA : RowsAt w g o n N R) (hC : WordsAt w h p n S) :
    Calls Try.prog 51 #[.slice (some ⟨g, o, none⟩) n c, .slice (some ⟨h, p, none⟩) n d, .int .u64 b] w fun e w' => e = .returned (.bool B) ∧ Gr w w' := by
  have hni : (n : Int) ≤ 1000000 := by omega
  have HB := Lib.hid hb
  have HN := Lib.hid hN
  have HR := Lib.hid hR
  have HSS := Lib.hid hS
  have HBB := Lib.hid hB
  have HA := Lib.hid hA
  have HC := Lib.hid hC
  have HM := Lib.hid (mulI_W b 1000000 hb (Wlit (by omega)))
  clear hb hN hR hS hB hA hC
  go_enter Try.func51, Try.ntmps51
  go_wp2_with fail
  refine (sMul b 1000000 HB.out (Wlit (by omega)) _).mono ?_; rintro e' w' ⟨rfl, rfl⟩
  go_wp2_with fail
  go_loopw [22] (fun s wr => ∃ i : Nat, s = .int .i64 (i : Int) ∧ i ≤ n ∧ (∀ i' m, i' < i → i' + m < n → ¬ overP N R S b i' m) ∧ Gr w wr) (fun s _ => (n - intOf s).toNat)
  case atStart => exact ⟨0, by first | rfl | simp, by omega, fun i' m h => by omega, by repeat (first | assumption | exact Gr.refl _ | apply Gr.drewN | apply Gr.drew | apply Gr.gw | apply Gr.alloc)⟩
  case round =>
    obtain ⟨i, rfl, hi, hno, hG⟩ := hrel
    have HNO := Lib.hid hno
    clear hno
    obtain ⟨wo, rfl⟩ : ∃ wo : World, wo = wr := ⟨_, rfl⟩
    by_cases hlt : i < n
    · have hltI : (i : Int) < (n : Int) := by omega
      have HNI := Lib.hid (HN.out i hlt)
      go_wp2_with fail
      go_loopw [9, 10, 11] (fun u v s wi => ∃ m : Nat, s = .int .i64 ((i + m : Nat) : Int) ∧ i + m ≤ n ∧ u = .int .u64 (wentI S i m) ∧ v = .int .u64 (rateI R i m) ∧ (∀ m', m' < m → ¬ overP N R S b i m') ∧ Gr w wi) (fun _ _ s _ => (n - intOf s).toNat)
      case atStart => exact ⟨0, by first | rfl | simp, by omega, by first | rfl | simp [wentI], by first | rfl | simp [rateI], fun m' h => by omega, by repeat (first | assumption | exact Gr.refl _ | apply Gr.drewN | apply Gr.drew | apply Gr.gw | apply Gr.alloc)⟩
      case round =>
        obtain ⟨m, hs, hm, rfl, rfl, hno2, hG2⟩ := hrel
        obtain ⟨j, hj⟩ : ∃ j, i + m = j := ⟨_, rfl⟩
        rw [hj] at hs hm
        subst hs
        have HNO2 := Lib.hid hno2
        have HJ := Lib.hid hj
        have hij : i ≤ j := by omega
        have hj0 : (i : Int) ≤ (j : Int) := by omega
        clear hno2 hj
        by_cases hlt2 : j < n
        · have hlt2I : (j : Int) < (n : Int) := by omega
          have RA := HA.out.below hG2.below
          have CA := HC.out.below hG2.below
          obtain ⟨a1, a2⟩ := RA.2 i hlt
          obtain ⟨b1, b2⟩ := RA.2 j hlt2
          have c1 := CA.2 j hlt2
          have lg := RA.1
          have lh := CA.1
          clear RA CA
          have HNJ := Lib.hid (HN.out j hlt2)
          have HS := Lib.hid (HSS.out j hlt2)
          have HW0 := Lib.hid (wentI_W S n i HSS.out m (by have := HJ.out; omega))
          have HR0 := Lib.hid (rateI_W R n i HR.out m (by have := HJ.out; omega))
          have HW1 := Lib.hid (addI_W _ _ HW0.out HS.out)
          have HR1 : Hid (W64 (max (rateI R i m) (R j))) := by
            show W64 _
            have h1 := HR0.out
            have h2 := HR.out j hlt2
            unfold W64 at *
            omega
          have HT := Lib.hid (subI_W _ _ HNJ.out HNI.out)
          have HX := Lib.hid (mulI_W _ _ HR1.out HT.out)
          have EW : Hid (wentI S i (m + 1) = (addI (wentI S i m) (S j))) := by
            show addI (wentI S i m) (S (i + m)) = _
            rw [HJ.out]
          have ER : Hid (rateI R i (m + 1) = (max (rateI R i m) (R j))) := by
            show max (rateI R i m) (R (i + m)) = _
            rw [HJ.out]
          have EO : Hid (overP N R S b i m ↔ addI (mulI b 1000000) (mulI (max (rateI R i m) (R j)) (subI (N j) (N i))) < mulI (addI (wentI S i m) (S j)) 1000000) := by
            show overP N R S b i m ↔ _
            unfold overP
            rw [EW.out, ER.out, HJ.out]
          by_cases hbad : addI (mulI b 1000000) (mulI (max (rateI R i m) (R j)) (subI (N j) (N i))) < mulI (addI (wentI S i m) (S j)) 1000000
          · have FB : Hid (B = false) := by
              show B = false
              cases hB : B
              · rfl
              · exact absurd (EO.out.2 hbad) (HBB.out.1 hB i m (by rw [HJ.out]; exact hlt2))
            have hdb := decide_eq_true hbad
            clear hbad
            go_wp2_with fail
            refine (sAdd (wentI S i m) (S j) HW0.out HS.out _).mono ?_; rintro e' w' ⟨rfl, rfl⟩
            go_wp2_with fail
            refine region_tail 13 (by kernel_rfl) (by kernel_rfl) ?_
            simp only [List.take_succ_cons, List.take_zero, List.drop_succ_cons, List.drop_zero]
            repeat still_step
            still_call (turn (sSub (N j) (N i) HNJ.out HNI.out _))
            refine wpStill_nil ?_
            go_wp2_with fail
            refine (sMul (addI (wentI S i m) (S j)) 1000000 HW1.out (Wlit (by omega)) _).mono ?_; rintro e' w' ⟨rfl, rfl⟩
            go_wp2_with fail
            refine (sMul (max (rateI R i m) (R j)) (subI (N j) (N i)) HR1.out HT.out _).mono ?_; rintro e' w' ⟨rfl, rfl⟩
            go_wp2_with fail
            refine (sAdd (mulI b 1000000) (mulI (max (rateI R i m) (R j)) (subI (N j) (N i))) HM.out HX.out _).mono ?_; rintro e' w' ⟨rfl, rfl⟩
            go_wp2_with fail
            go_ret
            exact ⟨ret_bool FB.out.symm, by repeat (first | assumption | exact Gr.refl _ | apply Gr.drewN | apply Gr.drew | apply Gr.gw | apply Gr.alloc)⟩
          · have hdb := decide_eq_false hbad
            have HG2 := Lib.hid hbad
            have hle : mulI (addI (wentI S i m) (S j)) 1000000 ≤ addI (mulI b 1000000) (mulI (max (rateI R i m) (R j)) (subI (N j) (N i))) := by omega
            clear hbad
            go_wp2_with fail
            refine (sAdd (wentI S i m) (S j) HW0.out HS.out _).mono ?_; rintro e' w' ⟨rfl, rfl⟩
            go_wp2_with fail
            refine region_tail 13 (by kernel_rfl) (by kernel_rfl) ?_
            simp only [List.take_succ_cons, List.take_zero, List.drop_succ_cons, List.drop_zero]
            repeat still_step
            still_call (turn (sSub (N j) (N i) HNJ.out HNI.out _))
            refine wpStill_nil ?_
            go_wp2_with fail
            refine (sMul (addI (wentI S i m) (S j)) 1000000 HW1.out (Wlit (by omega)) _).mono ?_; rintro e' w' ⟨rfl, rfl⟩
            go_wp2_with fail
            refine (sMul (max (rateI R i m) (R j)) (subI (N j) (N i)) HR1.out HT.out _).mono ?_; rintro e' w' ⟨rfl, rfl⟩
            go_wp2_with fail
            refine (sAdd (mulI b 1000000) (mulI (max (rateI R i m) (R j)) (subI (N j) (N i))) HM.out HX.out _).mono ?_; rintro e' w' ⟨rfl, rfl⟩
            go_wp2_with fail
            go_roundw
            case rel => exact ⟨m + 1, by have := HJ.out; congr 1; omega, by have := HJ.out; omega, by rw [EW.out], by rw [ER.out], fun m' hm' => by
              rcases (by omega : m' < m ∨ m' = m) with h | rfl
              · exact HNO2.out m' h
              · exact fun h => by have h1 := EO.out.1 h; have h2 := HG2.out; omega, by repeat (first | assumption | exact Gr.refl _ | apply Gr.drewN | apply Gr.drew | apply Gr.gw | apply Gr.alloc)⟩
            case measure => simp only [intOf]; omega
        · have hd : decide ((j : Int) < (n : Int)) = false := by rw [decide_eq_false_iff_not]; omega
          have e : j = n := by omega
          have HE : Hid (∀ i' m, i' < i + 1 → i' + m < n → ¬ overP N R S b i' m) := by
            show ∀ i' m, i' < i + 1 → i' + m < n → ¬ overP N R S b i' m
            intro i' m' h1 h2
            rcases (by omega : i' < i ∨ i' = i) with h | rfl
            · exact HNO.out i' m' h h2
            · exact HNO2.out m' (by have := HJ.out; omega)
          clear e
          go_wp2_with fail
          go_roundw
          case rel => exact ⟨i + 1, by congr 1, by omega, HE.out, by repeat (first | assumption | exact Gr.refl _ | apply Gr.drewN | apply Gr.drew | apply Gr.gw | apply Gr.alloc)⟩
          case measure => simp only [intOf]; omega
    · have hd : decide ((i : Int) < (n : Int)) = false := by rw [decide_eq_false_iff_not]; omega
      have TB : Hid (B = true) := by
        show B = true
        exact HBB.out.2 (fun i' m' h => HNO.out i' m' (by omega) h)
      go_wp2_with fail
      go_ret
      exact ⟨ret_bool TB.out.symm, by repeat (first | assumption | exact Gr.refl _ | apply Gr.drewN | apply Gr.drew | apply Gr.gw | apply Gr.alloc)⟩

set_option maxHeartbeats 1000000 in
theorem jPacedLen (x y : Option Addr) (n c k d : Nat) (b : Int) (hb : W64 b) (hn : n ≤ 9223372036854775807) (hk : k ≤ 9223372036854775807) (hne : n ≠ k) (w : World) :
    Calls Try.prog 51 #[.slice x n c, .slice y k d, .int .u64 b] w fun e w' => e = .returned (.bool false) ∧ Gr w w' := by
  have h1 : ((n : Int) != (k : Int)) = true := by simp; omega
  have h2 : ((n : Int) == (k : Int)) = false := by simp; omega
  go_enter Try.func51, Try.ntmps51
  go_wp2_with fail
  go_ret
  exact ⟨rfl, by repeat (first | assumption | exact Gr.refl _ | apply Gr.drewN | apply Gr.drew | apply Gr.gw | apply Gr.alloc)⟩

set_option maxHeartbeats 1000000 in
theorem jPaced0 (x y : Option Addr) (c d : Nat) (b : Int) (hb : W64 b) (w : World) :
    Calls Try.prog 51 #[.slice x 0 c, .slice y 0 d, .int .u64 b] w fun e w' => e = .returned (.bool true) ∧ Gr w w' := by
  have HB := Lib.hid hb
  clear hb
  go_enter Try.func51, Try.ntmps51
  go_wp2_with fail
  refine (sMul b 1000000 HB.out (Wlit (by omega)) _).mono ?_; rintro e' w' ⟨rfl, rfl⟩
  go_wp2_with fail
  refine wp_loop_rounds 1 ?_; rw [rounds_succ]
  go_wp2_with fail
  go_ret
  exact ⟨rfl, by repeat (first | assumption | exact Gr.refl _ | apply Gr.drewN | apply Gr.drew | apply Gr.gw | apply Gr.alloc)⟩

set_option maxHeartbeats 4000000 in
theorem qPacedSome (g o c h p d n : Nat) (N R S : Nat → Int) (b : Int) (hn : n ≤ 1000000) (hb : W64 b) (hN : ∀ i, i < n → W64 (N i)) (hR : ∀ i, i < n → W64 (R i)) (hS : ∀ i, i < n → W64 (S i)) (B : Bool) (hB : B = true ↔ pacedP N R S b n) (w : World) (hA : RowsAt w g o n N R) (hC : WordsAt w h p n S) :
    Calls Try.prog 52 #[.slice (some ⟨g, o, none⟩) n c, .slice (some ⟨h, p, none⟩) n d, .int .u64 b] w fun e w' => e = .returned (.bool B) ∧ Gr w w' := by
  have hni : (n : Int) ≤ 1000000 := by omega
  have HB := Lib.hid hb
  have HN := Lib.hid hN
  have HR := Lib.hid hR
  have HSS := Lib.hid hS
  have HBB := Lib.hid hB
  have HA := Lib.hid hA
  have HC := Lib.hid hC
  have HM := Lib.hid (mulI_W b 1000000 hb (Wlit (by omega)))
  clear hb hN hR hS hB hA hC
  go_enter Try.func52, Try.ntmps52
  go_wp2_with fail
  go_loopw [7] (fun s wr => ∃ i : Nat, s = .int .i64 (i : Int) ∧ i ≤ n ∧ (∀ i' m, i' < i → i' + m < n → ¬ overP N R S b i' m) ∧ Gr w wr) (fun s _ => (n - intOf s).toNat)
  case atStart => exact ⟨0, by first | rfl | simp, by omega, fun i' m h => by omega, by repeat (first | assumption | exact Gr.refl _ | apply Gr.drewN | apply Gr.drew | apply Gr.gw | apply Gr.alloc)⟩
  case round =>
    obtain ⟨i, rfl, hi, hno, hG⟩ := hrel
    have HNO := Lib.hid hno
    clear hno
    obtain ⟨wo, rfl⟩ : ∃ wo : World, wo = wr := ⟨_, rfl⟩
    by_cases hlt : i < n
    · have hltI : (i : Int) < (n : Int) := by omega
      have HNI := Lib.hid (HN.out i hlt)
      go_wp2_with fail
      go_loopw [8, 9, 10] (fun u v s wi => ∃ m : Nat, s = .int .i64 ((i + m : Nat) : Int) ∧ i + m ≤ n ∧ u = .int .u64 (wentI S i m) ∧ v = .int .u64 (rateI R i m) ∧ (∀ m', m' < m → ¬ overP N R S b i m') ∧ Gr w wi) (fun _ _ s _ => (n - intOf s).toNat)
      case atStart => exact ⟨0, by first | rfl | simp, by omega, by first | rfl | simp [wentI], by first | rfl | simp [rateI], fun m' h => by omega, by repeat (first | assumption | exact Gr.refl _ | apply Gr.drewN | apply Gr.drew | apply Gr.gw | apply Gr.alloc)⟩
      case round =>
        obtain ⟨m, hs, hm, rfl, rfl, hno2, hG2⟩ := hrel
        obtain ⟨j, hj⟩ : ∃ j, i + m = j := ⟨_, rfl⟩
        rw [hj] at hs hm
        subst hs
        have HNO2 := Lib.hid hno2
        have HJ := Lib.hid hj
        have hij : i ≤ j := by omega
        have hj0 : (i : Int) ≤ (j : Int) := by omega
        clear hno2 hj
        by_cases hlt2 : j < n
        · have hlt2I : (j : Int) < (n : Int) := by omega
          have RA := HA.out.below hG2.below
          have CA := HC.out.below hG2.below
          obtain ⟨a1, a2⟩ := RA.2 i hlt
          obtain ⟨b1, b2⟩ := RA.2 j hlt2
          have c1 := CA.2 j hlt2
          have lg := RA.1
          have lh := CA.1
          clear RA CA
          have HNJ := Lib.hid (HN.out j hlt2)
          have HS := Lib.hid (HSS.out j hlt2)
          have HW0 := Lib.hid (wentI_W S n i HSS.out m (by have := HJ.out; omega))
          have HR0 := Lib.hid (rateI_W R n i HR.out m (by have := HJ.out; omega))
          have HW1 := Lib.hid (addI_W _ _ HW0.out HS.out)
          have HR1 : Hid (W64 (max (rateI R i m) (R j))) := by
            show W64 _
            have h1 := HR0.out
            have h2 := HR.out j hlt2
            unfold W64 at *
            omega
          have HT := Lib.hid (subI_W _ _ HNJ.out HNI.out)
          have HX := Lib.hid (mulI_W _ _ HR1.out HT.out)
          have EW : Hid (wentI S i (m + 1) = (addI (wentI S i m) (S j))) := by
            show addI (wentI S i m) (S (i + m)) = _
            rw [HJ.out]
          have ER : Hid (rateI R i (m + 1) = (max (rateI R i m) (R j))) := by
            show max (rateI R i m) (R (i + m)) = _
            rw [HJ.out]
          have EO : Hid (overP N R S b i m ↔ addI (mulI b 1000000) (mulI (max (rateI R i m) (R j)) (subI (N j) (N i))) < mulI (addI (wentI S i m) (S j)) 1000000) := by
            show overP N R S b i m ↔ _
            unfold overP
            rw [EW.out, ER.out, HJ.out]
          by_cases hbad : addI (mulI b 1000000) (mulI (max (rateI R i m) (R j)) (subI (N j) (N i))) < mulI (addI (wentI S i m) (S j)) 1000000
          · have FB : Hid (B = false) := by
              show B = false
              cases hB : B
              · rfl
              · exact absurd (EO.out.2 hbad) (HBB.out.1 hB i m (by rw [HJ.out]; exact hlt2))
            have hdb := decide_eq_true hbad
            clear hbad
            go_wp2_with fail
            refine (rAdd (wentI S i m) (S j) HW0.out HS.out _).mono ?_; rintro e' w' ⟨rfl, rfl⟩
            go_wp2_with fail
            refine region_tail 13 (by kernel_rfl) (by kernel_rfl) ?_
            simp only [List.take_succ_cons, List.take_zero, List.drop_succ_cons, List.drop_zero]
            repeat still_step
            still_call (turn (rSub (N j) (N i) HNJ.out HNI.out _))
            refine wpStill_nil ?_
            go_wp2_with fail
            refine (rMul (addI (wentI S i m) (S j)) 1000000 HW1.out (Wlit (by omega)) _).mono ?_; rintro e' w' ⟨rfl, rfl⟩
            go_wp2_with fail
            refine (rMul b 1000000 HB.out (Wlit (by omega)) _).mono ?_; rintro e' w' ⟨rfl, rfl⟩
            go_wp2_with fail
            refine (rMul (max (rateI R i m) (R j)) (subI (N j) (N i)) HR1.out HT.out _).mono ?_; rintro e' w' ⟨rfl, rfl⟩
            go_wp2_with fail
            refine (rAdd (mulI b 1000000) (mulI (max (rateI R i m) (R j)) (subI (N j) (N i))) HM.out HX.out _).mono ?_; rintro e' w' ⟨rfl, rfl⟩
            go_wp2_with fail
            go_ret
            exact ⟨ret_bool FB.out.symm, by repeat (first | assumption | exact Gr.refl _ | apply Gr.drewN | apply Gr.drew | apply Gr.gw | apply Gr.alloc)⟩
          · have hdb := decide_eq_false hbad
            have HG2 := Lib.hid hbad
            have hle : mulI (addI (wentI S i m) (S j)) 1000000 ≤ addI (mulI b 1000000) (mulI (max (rateI R i m) (R j)) (subI (N j) (N i))) := by omega
            clear hbad
            go_wp2_with fail
            refine (rAdd (wentI S i m) (S j) HW0.out HS.out _).mono ?_; rintro e' w' ⟨rfl, rfl⟩
            go_wp2_with fail
            refine region_tail 13 (by kernel_rfl) (by kernel_rfl) ?_
            simp only [List.take_succ_cons, List.take_zero, List.drop_succ_cons, List.drop_zero]
            repeat still_step
            still_call (turn (rSub (N j) (N i) HNJ.out HNI.out _))
            refine wpStill_nil ?_
            go_wp2_with fail
            refine (rMul (addI (wentI S i m) (S j)) 1000000 HW1.out (Wlit (by omega)) _).mono ?_; rintro e' w' ⟨rfl, rfl⟩
            go_wp2_with fail
            refine (rMul b 1000000 HB.out (Wlit (by omega)) _).mono ?_; rintro e' w' ⟨rfl, rfl⟩
            go_wp2_with fail
            refine (rMul (max (rateI R i m) (R j)) (subI (N j) (N i)) HR1.out HT.out _).mono ?_; rintro e' w' ⟨rfl, rfl⟩
            go_wp2_with fail
            refine (rAdd (mulI b 1000000) (mulI (max (rateI R i m) (R j)) (subI (N j) (N i))) HM.out HX.out _).mono ?_; rintro e' w' ⟨rfl, rfl⟩
            go_wp2_with fail
            go_roundw
            case rel => exact ⟨m + 1, by have := HJ.out; congr 1; omega, by have := HJ.out; omega, by rw [EW.out], by rw [ER.out], fun m' hm' => by
              rcases (by omega : m' < m ∨ m' = m) with h | rfl
              · exact HNO2.out m' h
              · exact fun h => by have h1 := EO.out.1 h; have h2 := HG2.out; omega, by repeat (first | assumption | exact Gr.refl _ | apply Gr.drewN | apply Gr.drew | apply Gr.gw | apply Gr.alloc)⟩
            case measure => simp only [intOf]; omega
        · have hd : decide ((j : Int) < (n : Int)) = false := by rw [decide_eq_false_iff_not]; omega
          have e : j = n := by omega
          have HE : Hid (∀ i' m, i' < i + 1 → i' + m < n → ¬ overP N R S b i' m) := by
            show ∀ i' m, i' < i + 1 → i' + m < n → ¬ overP N R S b i' m
            intro i' m' h1 h2
            rcases (by omega : i' < i ∨ i' = i) with h | rfl
            · exact HNO.out i' m' h h2
            · exact HNO2.out m' (by have := HJ.out; omega)
          clear e
          go_wp2_with fail
          go_roundw
          case rel => exact ⟨i + 1, by congr 1, by omega, HE.out, by repeat (first | assumption | exact Gr.refl _ | apply Gr.drewN | apply Gr.drew | apply Gr.gw | apply Gr.alloc)⟩
          case measure => simp only [intOf]; omega
    · have hd : decide ((i : Int) < (n : Int)) = false := by rw [decide_eq_false_iff_not]; omega
      have TB : Hid (B = true) := by
        show B = true
        exact HBB.out.2 (fun i' m' h => HNO.out i' m' (by omega) h)
      go_wp2_with fail
      go_ret
      exact ⟨ret_bool TB.out.symm, by repeat (first | assumption | exact Gr.refl _ | apply Gr.drewN | apply Gr.drew | apply Gr.gw | apply Gr.alloc)⟩

set_option maxHeartbeats 1000000 in
theorem qPacedLen (x y : Option Addr) (n c k d : Nat) (b : Int) (hb : W64 b) (hn : n ≤ 9223372036854775807) (hk : k ≤ 9223372036854775807) (hne : n ≠ k) (w : World) :
    Calls Try.prog 52 #[.slice x n c, .slice y k d, .int .u64 b] w fun e w' => e = .returned (.bool false) ∧ Gr w w' := by
  have h1 : ((n : Int) != (k : Int)) = true := by simp; omega
  have h2 : ((n : Int) == (k : Int)) = false := by simp; omega
  go_enter Try.func52, Try.ntmps52
  go_wp2_with fail
  go_ret
  exact ⟨rfl, by repeat (first | assumption | exact Gr.refl _ | apply Gr.drewN | apply Gr.drew | apply Gr.gw | apply Gr.alloc)⟩

set_option maxHeartbeats 1000000 in
theorem qPaced0 (x y : Option Addr) (c d : Nat) (b : Int) (hb : W64 b) (w : World) :
    Calls Try.prog 52 #[.slice x 0 c, .slice y 0 d, .int .u64 b] w fun e w' => e = .returned (.bool true) ∧ Gr w w' := by
  have HB := Lib.hid hb
  clear hb
  go_enter Try.func52, Try.ntmps52
  go_wp2_with fail
  refine wp_loop_rounds 1 ?_; rw [rounds_succ]
  go_wp2_with fail
  go_ret
  exact ⟨rfl, by repeat (first | assumption | exact Gr.refl _ | apply Gr.drewN | apply Gr.drew | apply Gr.gw | apply Gr.alloc)⟩

end Go.Proofs.Ytikkmdbaekdolaa

