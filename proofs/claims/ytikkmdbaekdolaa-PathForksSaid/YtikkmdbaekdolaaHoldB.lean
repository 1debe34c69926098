/- ROWS THAT ARE KNOWN WHOLE, through a region that draws its order and through calls that write into blocks of their own. -/
import Derived.Test.YtikkmdbaekdolaaHold
namespace Go.Proofs.Ytikkmdbaekdolaa
open Go.RowKit
set_option linter.unusedVariables false
set_option maxRecDepth 100000

theorem held_absB {P : Program} {id : Nat} {ops : Array Oper} {Q : Exit → Act → World → Prop} {S : World → Prop} {w1 : World} {a : Act} (w0 : World) (hm : P.follows .mixedOrders = true) (hS : S w1.drew) (hG : Below w0.heap.size w0 w1.drew)
    (h : ∀ X, S X → Below w0.heap.size w0 X → wpAnyH P .any ops Q S ops.size (Array.replicate ops.size false) a X) : (Code.region id ops true).wp P Q a w1 :=
  wp_region_held_drew hm hS (fun hS' => h _ hS' hG)
theorem RowIs.bel {W W' : World} {g : Nat} {t : TypeId} {cs : Array Value} (h : RowIs W g t cs) (k : Below W.heap.size W W') : RowIs W' g t cs := RowIs.below h h.lt k
theorem rowsBel0 {W W' : World} (h : True) (k : Below W.heap.size W W') : True := trivial
theorem rowsBel1 {W W' : World} {g1 : Nat} {t1 : TypeId} {c1 : Array Value} (h : RowIs W g1 t1 c1) (k : Below W.heap.size W W') : RowIs W' g1 t1 c1 := h.bel k
theorem rowsBel2 {W W' : World} {g1 g2 : Nat} {t1 t2 : TypeId} {c1 c2 : Array Value} (h : RowIs W g1 t1 c1 ∧ RowIs W g2 t2 c2) (k : Below W.heap.size W W') : RowIs W' g1 t1 c1 ∧ RowIs W' g2 t2 c2 := ⟨h.1.bel k, rowsBel1 h.2 k⟩
theorem rowsBel3 {W W' : World} {g1 g2 g3 : Nat} {t1 t2 t3 : TypeId} {c1 c2 c3 : Array Value} (h : RowIs W g1 t1 c1 ∧ RowIs W g2 t2 c2 ∧ RowIs W g3 t3 c3) (k : Below W.heap.size W W') : RowIs W' g1 t1 c1 ∧ RowIs W' g2 t2 c2 ∧ RowIs W' g3 t3 c3 := ⟨h.1.bel k, rowsBel2 h.2 k⟩
theorem rowsBel4 {W W' : World} {g1 g2 g3 g4 : Nat} {t1 t2 t3 t4 : TypeId} {c1 c2 c3 c4 : Array Value} (h : RowIs W g1 t1 c1 ∧ RowIs W g2 t2 c2 ∧ RowIs W g3 t3 c3 ∧ RowIs W g4 t4 c4) (k : Below W.heap.size W W') : RowIs W' g1 t1 c1 ∧ RowIs W' g2 t2 c2 ∧ RowIs W' g3 t3 c3 ∧ RowIs W' g4 t4 c4 := ⟨h.1.bel k, rowsBel3 h.2 k⟩
theorem rowsBel5 {W W' : World} {g1 g2 g3 g4 g5 : Nat} {t1 t2 t3 t4 t5 : TypeId} {c1 c2 c3 c4 c5 : Array Value} (h : RowIs W g1 t1 c1 ∧ RowIs W g2 t2 c2 ∧ RowIs W g3 t3 c3 ∧ RowIs W g4 t4 c4 ∧ RowIs W g5 t5 c5) (k : Below W.heap.size W W') : RowIs W' g1 t1 c1 ∧ RowIs W' g2 t2 c2 ∧ RowIs W' g3 t3 c3 ∧ RowIs W' g4 t4 c4 ∧ RowIs W' g5 t5 c5 := ⟨h.1.bel k, rowsBel4 h.2 k⟩
theorem rowsBel6 {W W' : World} {g1 g2 g3 g4 g5 g6 : Nat} {t1 t2 t3 t4 t5 t6 : TypeId} {c1 c2 c3 c4 c5 c6 : Array Value} (h : RowIs W g1 t1 c1 ∧ RowIs W g2 t2 c2 ∧ RowIs W g3 t3 c3 ∧ RowIs W g4 t4 c4 ∧ RowIs W g5 t5 c5 ∧ RowIs W g6 t6 c6) (k : Below W.heap.size W W') : RowIs W' g1 t1 c1 ∧ RowIs W' g2 t2 c2 ∧ RowIs W' g3 t3 c3 ∧ RowIs W' g4 t4 c4 ∧ RowIs W' g5 t5 c5 ∧ RowIs W' g6 t6 c6 := ⟨h.1.bel k, rowsBel5 h.2 k⟩

end Go.Proofs.Ytikkmdbaekdolaa
