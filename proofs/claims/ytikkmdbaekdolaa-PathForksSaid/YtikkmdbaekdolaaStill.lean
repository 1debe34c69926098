/- steps of a region that only reads, by whether an operation is wanted: the kernel tells. -/
import Derived.Test.YtikkmdbaekdolaaTurn
namespace Go.Proofs.Ytikkmdbaekdolaa
open Go.RowKit Go.Lib

theorem wpStill_on {P : Program} {ops : Array Oper} {w : World} {Q : Act → Prop} {a : Act} {o : Oper} {rest : List Oper} (hw : Region.wanted o (yielded ops a.tmps) = true)
    (h : ∀ K : Act → Prop, (∀ a, wpStill P ops w Q rest a → K a) → o.still P a w K) : wpStill P ops w Q (o :: rest) a := by
  unfold wpStill
  rw [hw, if_pos rfl]
  exact h _ (fun _ h => h)
theorem wpStill_off {P : Program} {ops : Array Oper} {w : World} {Q : Act → Prop} {a : Act} {o : Oper} {rest : List Oper} (hw : Region.wanted o (yielded ops a.tmps) = false)
    (h : ∀ K : Act → Prop, (∀ a, wpStill P ops w Q rest a → K a) → K (a.put o.dst undef)) : wpStill P ops w Q (o :: rest) a := by
  unfold wpStill
  rw [hw, if_neg (by decide)]
  exact h _ (fun _ h => h)

end Go.Proofs.Ytikkmdbaekdolaa
