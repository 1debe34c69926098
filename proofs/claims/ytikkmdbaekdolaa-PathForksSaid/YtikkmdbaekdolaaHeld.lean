/- A LONG REGION THAT DRAWS ITS ORDER: those of its operations that yield whatever the order, taken by rows; operations under a guard that is not known. -/
import Derived.Test.YtikkmdbaekdolaaGr
import Derived.Deep.RegionHeld3
import Derived.OrdersHeld
import Derived.Laws.Tables
namespace Go.Proofs.Ytikkmdbaekdolaa
open Go.RowKit
set_option linter.unusedVariables false
set_option maxRecDepth 100000

/-- a guarded operation that only computes, its guard not known: its slot holds the value, or nothing -/
theorem yieldsIf_guard {P : Program} {ops : Array Oper} {S : World → Prop} {o : Oper} {v : Value} {a : Act} (p : Bool) (hw : Region.wanted o (yielded ops a.tmps) = p)
    (h : p = true → ∀ w, S w → (execOp a.eval o).run P w = .ok (.value v) w) : YieldsIf P ops S o (if p = true then v else undef) a := by
  cases p with
  | false => exact .inr ⟨hw, by simp⟩
  | true => exact .inl ⟨hw, by simpa using h rfl⟩

/-- may n operations from the k-th on be taken first, one behind the other? -/
def headB (md : Region.Mode) (ops : Array Oper) : Nat → Nat → Array Bool → Bool
  | 0, _, _ => true
  | n + 1, k, listed => (Region.ready md ops listed).contains k && Region.free md ops listed k && headB md ops n (k + 1) (listed.setIfInBounds k true)
/-- they are listed -/
def markB : Nat → Nat → Array Bool → Array Bool
  | 0, _, l => l
  | n + 1, k, l => markB n (k + 1) (l.setIfInBounds k true)
/-- each yields in every world that meets S -/
def wpHeld (P : Program) (ops : Array Oper) (S : World → Prop) (K : Act → Prop) : List Oper → Act → Prop
  | [], a => K a
  | o :: l, a => ∃ v, YieldsIf P ops S o v a ∧ wpHeld P ops S K l (a.put o.dst v)

theorem wpHeld_nil {P : Program} {ops : Array Oper} {S : World → Prop} {K : Act → Prop} {a : Act} (h : K a) : wpHeld P ops S K [] a := h
theorem wpHeld_val {P : Program} {ops : Array Oper} {S : World → Prop} {K : Act → Prop} {a : Act} {o : Oper} {l : List Oper} (v : Value) (hw : Region.wanted o (yielded ops a.tmps) = true)
    (h : ∀ w, S w → (execOp a.eval o).run P w = .ok (.value v) w) (hk : wpHeld P ops S K l (a.put o.dst v)) : wpHeld P ops S K (o :: l) a := ⟨v, .inl ⟨hw, h⟩, hk⟩
theorem wpHeld_guard {P : Program} {ops : Array Oper} {S : World → Prop} {K : Act → Prop} {a : Act} {o : Oper} {l : List Oper} (p : Bool) (v : Value) (hw : Region.wanted o (yielded ops a.tmps) = p)
    (h : p = true → ∀ w, S w → (execOp a.eval o).run P w = .ok (.value v) w) (hk : wpHeld P ops S K l (a.put o.dst (if p = true then v else undef))) : wpHeld P ops S K (o :: l) a := ⟨_, yieldsIf_guard p hw h, hk⟩

theorem wpAnyH_row {P : Program} {md : Region.Mode} {ops : Array Oper} {Q : Exit → Act → World → Prop} {S : World → Prop} {w : World} (hs : Region.noSelect ops = true) (hS : S w)
    (hQ : ∀ (c : _) (a : Act) (d : Option Tmp) (v : Value) (w : World), Q (.panic c) (a.put d v) w → Q (.panic c) a w) :
    ∀ (l : List Oper) (k fuel : Nat) (listed : Array Bool) (a : Act), (∀ j, j < l.length → ops[k + j]? = l[j]?) → headB md ops l.length k listed = true →
      wpHeld P ops S (fun a' => wpAnyH P md ops Q S fuel (markB l.length k listed) a' w) l a → wpAnyH P md ops Q S (fuel + l.length) listed a w
  | [], _, _, _, _, _, _, h => h
  | o :: l, k, fuel, listed, a, hl, hB, h => by
    obtain ⟨v, hy, h⟩ := h
    simp only [List.length_cons, headB, Bool.and_eq_true] at hB
    refine wpAnyH_take (i := k) (oi := o) (v := v) (fuel := fuel + l.length) (by simpa using hl 0 (by simp)) hs hB.1.2 hB.1.1 (fun c a w => hQ c a _ _ w) hy hS ?_
    exact wpAnyH_row hs hS hQ l (k + 1) fuel _ _ (fun j hj => by have := hl (j + 1) (by simp; omega); simpa [Nat.add_assoc, Nat.add_comm 1 j] using this) hB.2 h

/-- a row of n operations from the k-th on; R: the region's operations, by name -/
theorem held_step {P : Program} {md : Region.Mode} {ol : List Oper} {Q : Exit → Act → World → Prop} {S : World → Prop} {w : World} {listed listed' : Array Bool} {a : Act} (R : List Oper) (hR : ol = R) (k n fuel all : Nat) (hall : all = fuel + n) (hlen : decide (k + n ≤ R.length) = true)
    (hs : Region.noSelect R.toArray = true) (hB : headB md R.toArray n k listed = true) (hM : markB n k listed = listed') (hQ : ∀ (c : _) (a : Act) (d : Option Tmp) (v : Value) (w : World), Q (.panic c) (a.put d v) w → Q (.panic c) a w) (hS : S w)
    (h : wpHeld P ol.toArray S (fun a' => wpAnyH P md ol.toArray Q S fuel listed' a' w) ((ol.drop k).take n) a) : wpAnyH P md ol.toArray Q S all listed a w := by
  subst hall hR hM
  have hlen := of_decide_eq_true hlen
  have e : ((ol.drop k).take n).length = n := by simp; omega
  have := wpAnyH_row (md := md) hs hS hQ ((ol.drop k).take n) k fuel listed a (fun j hj => by
    rw [e] at hj
    rw [List.getElem?_take, if_pos hj, List.getElem?_drop]
    simp) (by rw [e]; exact hB) (by rw [e]; exact h)
  rwa [e] at this

theorem held_start {P : Program} {id : Nat} {ol : List Oper} {Q : Exit → Act → World → Prop} {S : World → Prop} {w : World} {a : Act} (listed : Array Bool) (n : Nat) (hm : P.follows .mixedOrders = true) (hlen : ol.toArray.size = n) (hL : Array.replicate n false = listed) (hS : S w.drew)
    (h : S w.drew → wpAnyH P .any ol.toArray Q S n listed a w.drew) : (Code.region id ol.toArray true).wp P Q a w := by
  subst hlen hL
  exact wp_region_held_drew hm hS h

/-- the listed ones, spelt anew -/
theorem held_as {P : Program} {md : Region.Mode} {ops : Array Oper} {Q : Exit → Act → World → Prop} {S : World → Prop} {w : World} {a : Act} {fuel : Nat} {l l' : Array Bool} (e : l = l') (h : wpAnyH P md ops Q S fuel l' a w) : wpAnyH P md ops Q S fuel l a w := e ▸ h

/-- a region's operations, out of the program -/
def opsAt (id : Nat) : Code → Option (List Oper)
  | .region i ops _ => if i = id then some ops.toList else none
  | .seq a b => (opsAt id a).orElse fun _ => opsAt id b
  | .block _ c => opsAt id c
  | .scope c => opsAt id c
  | .loop c => opsAt id c
  | .cond _ a b => (opsAt id a).orElse fun _ => opsAt id b
  | _ => none

end Go.Proofs.Ytikkmdbaekdolaa
