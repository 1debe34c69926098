/- package reno, and the reference's: what Slow, Grow and Cut return, for all windows. -/
import Derived.Test.YtanebjapcpbdnaaSat
import Derived.StillTailTactics
namespace Go.Proofs.Ytanebjapcpbdnaa
open Go.RowKit Go.Lib
set_option linter.unusedVariables false

/-- a contract that leaves the world alone, said the other way round -/
theorem turn {P : Program} {f : FuncId} {args : Array Value} {w : World} {v : Value} (h : Calls P f args w fun e w' => e = .returned v ∧ w = w') : Calls P f args w fun e w' => e = .returned v ∧ w' = w :=
  h.mono fun _ _ ⟨a, b⟩ => ⟨a, b.symm⟩
/-- a region that draws: its head only reads, its tail goes as the text goes -/
theorem region_tail {P : Program} {id : Nat} {Q : Exit → Act → World → Prop} {a : Act} {w : World} {l : List Oper} (n : Nat) (hm : P.follows .mixedOrders = true) (hB : Region.lexTailB .any l.toArray n = true)
    (h : wpStill P l.toArray w.drew (fun a' => wpList P l.toArray Q (l.drop n) a' w.drew) (l.take n) a) : (Code.region id l.toArray true).wp P Q a w :=
  wp_region_still_tail n hm hB h
/-- slow start -/
def slowI (c ak ms : Int) : Int := addI c (min ak (mulI 2 ms))
/-- the window, and what is counted, behind an acknowledgment -/
def growC (c t a ak ms : Int) : Int := if c < t then slowI c ak ms else if c ≤ addI a ak then addI c ms else c
def growA (c t a ak ms : Int) : Int := if c < t then a else if c ≤ addI a ak then addI a ak - c else addI a ak

set_option maxHeartbeats 400000 in
theorem nSlow (c t a p e k f ak ms : Int) (hc : W64 c) (hak : W64 ak) (hms : W64 ms) (w : World) :
    Calls Try.prog 56 #[.agg #[.int .u64 c, .int .u64 t, .int .u64 a, .int .u64 p, .int .u64 e, .int .u64 k, .int .u64 f], .int .u64 ak, .int .u64 ms] w fun e' w' => e' = .returned (.agg #[.int .u64 (slowI c ak ms), .int .u64 t, .int .u64 a, .int .u64 p, .int .u64 e, .int .u64 k, .int .u64 f]) ∧ Gr w w' := by
  have Hc := Lib.hid hc
  have Hm := Lib.hid hms
  have HM := Lib.hid (show W64 (min ak (mulI 2 ms)) from by have := mulI_W 2 ms ⟨by omega, by omega⟩ hms; unfold W64 at *; omega)
  have He : Hid (addI c (min ak (mulI 2 ms)) = slowI c ak ms) := rfl
  clear hc hak hms
  go_enter Try.func56, Try.ntmps56
  go_wp2_with fail
  refine region_tail 8 (by kernel_rfl) (by kernel_rfl) ?_
  simp only [List.take_succ_cons, List.take_zero, List.drop_succ_cons, List.drop_zero]
  repeat still_step
  still_call (turn (sMul _ _ (Wlit (by omega)) Hm.out _))
  repeat still_step
  still_call (turn (sAdd _ _ Hc.out HM.out _))
  repeat still_step
  refine wpStill_nil ?_
  go_wp2_with fail
  refine bodyPost_ret (v := .agg #[.int .u64 (slowI c ak ms), .int .u64 t, .int .u64 a, .int .u64 p, .int .u64 e, .int .u64 k, .int .u64 f]) (by rw [← He.out]; simp [results, Try.results56, go_sem]) rfl ⟨rfl, ?_⟩
  repeat (first | exact Gr.refl _ | apply Gr.drewN | apply Gr.drew | apply Gr.gw | apply Gr.alloc)

set_option maxHeartbeats 400000 in
theorem qSlow (c t a p e k f ak ms : Int) (hc : W64 c) (hak : W64 ak) (hms : W64 ms) (w : World) :
    Calls Try.prog 57 #[.agg #[.int .u64 c, .int .u64 t, .int .u64 a, .int .u64 p, .int .u64 e, .int .u64 k, .int .u64 f], .int .u64 ak, .int .u64 ms] w fun e' w' => e' = .returned (.agg #[.int .u64 (slowI c ak ms), .int .u64 t, .int .u64 a, .int .u64 p, .int .u64 e, .int .u64 k, .int .u64 f]) ∧ Gr w w' := by
  have Hc := Lib.hid hc
  have Hm := Lib.hid hms
  have HM := Lib.hid (show W64 (min ak (mulI 2 ms)) from by have := mulI_W 2 ms ⟨by omega, by omega⟩ hms; unfold W64 at *; omega)
  have He : Hid (addI c (min ak (mulI 2 ms)) = slowI c ak ms) := rfl
  clear hc hak hms
  go_enter Try.func57, Try.ntmps57
  go_wp2_with fail
  refine region_tail 8 (by kernel_rfl) (by kernel_rfl) ?_
  simp only [List.take_succ_cons, List.take_zero, List.drop_succ_cons, List.drop_zero]
  repeat still_step
  still_call (turn (rMul _ _ (Wlit (by omega)) Hm.out _))
  repeat still_step
  still_call (turn (rAdd _ _ Hc.out HM.out _))
  repeat still_step
  refine wpStill_nil ?_
  go_wp2_with fail
  refine bodyPost_ret (v := .agg #[.int .u64 (slowI c ak ms), .int .u64 t, .int .u64 a, .int .u64 p, .int .u64 e, .int .u64 k, .int .u64 f]) (by rw [← He.out]; simp [results, Try.results57, go_sem]) rfl ⟨rfl, ?_⟩
  repeat (first | exact Gr.refl _ | apply Gr.drewN | apply Gr.drew | apply Gr.gw | apply Gr.alloc)





end Go.Proofs.Ytanebjapcpbdnaa
