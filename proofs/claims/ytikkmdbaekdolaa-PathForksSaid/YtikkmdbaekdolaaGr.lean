/- WORLDS THAT ONLY GROW: what a call that makes memory, and writes to none that was there, leaves behind. -/
import Derived.Test.YtikkmdbaekdolaaNum
import Derived.Sort.Grow
import Derived.Below
import Derived.WalkSmall
namespace Go.Proofs.Ytikkmdbaekdolaa
open Go.RowKit
set_option linter.unusedVariables false
set_option maxRecDepth 100000

/-! a block that was there lies below all that came behind it -/
@[simp, go_sem] theorem ltA1 (n j a0 : Nat) (h : 0 < j) : n < n + j + a0 := by omega
@[simp, go_sem] theorem ltB1 (n i j a0 : Nat) (h : i < j) : n + i < n + j + a0 := by omega
@[simp, go_sem] theorem ltA2 (n j a0 a1 : Nat) (h : 0 < j) : n < n + j + a0 + a1 := by omega
@[simp, go_sem] theorem ltB2 (n i j a0 a1 : Nat) (h : i < j) : n + i < n + j + a0 + a1 := by omega
@[simp, go_sem] theorem ltA3 (n j a0 a1 a2 : Nat) (h : 0 < j) : n < n + j + a0 + a1 + a2 := by omega
@[simp, go_sem] theorem ltB3 (n i j a0 a1 a2 : Nat) (h : i < j) : n + i < n + j + a0 + a1 + a2 := by omega
@[simp, go_sem] theorem ltA4 (n j a0 a1 a2 a3 : Nat) (h : 0 < j) : n < n + j + a0 + a1 + a2 + a3 := by omega
@[simp, go_sem] theorem ltB4 (n i j a0 a1 a2 a3 : Nat) (h : i < j) : n + i < n + j + a0 + a1 + a2 + a3 := by omega
@[simp, go_sem] theorem ltA5 (n j a0 a1 a2 a3 a4 : Nat) (h : 0 < j) : n < n + j + a0 + a1 + a2 + a3 + a4 := by omega
@[simp, go_sem] theorem ltB5 (n i j a0 a1 a2 a3 a4 : Nat) (h : i < j) : n + i < n + j + a0 + a1 + a2 + a3 + a4 := by omega
@[simp, go_sem] theorem ltA6 (n j a0 a1 a2 a3 a4 a5 : Nat) (h : 0 < j) : n < n + j + a0 + a1 + a2 + a3 + a4 + a5 := by omega
@[simp, go_sem] theorem ltB6 (n i j a0 a1 a2 a3 a4 a5 : Nat) (h : i < j) : n + i < n + j + a0 + a1 + a2 + a3 + a4 + a5 := by omega
@[simp, go_sem] theorem ltA7 (n j a0 a1 a2 a3 a4 a5 a6 : Nat) (h : 0 < j) : n < n + j + a0 + a1 + a2 + a3 + a4 + a5 + a6 := by omega
@[simp, go_sem] theorem ltB7 (n i j a0 a1 a2 a3 a4 a5 a6 : Nat) (h : i < j) : n + i < n + j + a0 + a1 + a2 + a3 + a4 + a5 + a6 := by omega
@[simp, go_sem] theorem ltA8 (n j a0 a1 a2 a3 a4 a5 a6 a7 : Nat) (h : 0 < j) : n < n + j + a0 + a1 + a2 + a3 + a4 + a5 + a6 + a7 := by omega
@[simp, go_sem] theorem ltB8 (n i j a0 a1 a2 a3 a4 a5 a6 a7 : Nat) (h : i < j) : n + i < n + j + a0 + a1 + a2 + a3 + a4 + a5 + a6 + a7 := by omega
@[simp, go_sem] theorem ltA9 (n j a0 a1 a2 a3 a4 a5 a6 a7 a8 : Nat) (h : 0 < j) : n < n + j + a0 + a1 + a2 + a3 + a4 + a5 + a6 + a7 + a8 := by omega
@[simp, go_sem] theorem ltB9 (n i j a0 a1 a2 a3 a4 a5 a6 a7 a8 : Nat) (h : i < j) : n + i < n + j + a0 + a1 + a2 + a3 + a4 + a5 + a6 + a7 + a8 := by omega
@[simp, go_sem] theorem ltA10 (n j a0 a1 a2 a3 a4 a5 a6 a7 a8 a9 : Nat) (h : 0 < j) : n < n + j + a0 + a1 + a2 + a3 + a4 + a5 + a6 + a7 + a8 + a9 := by omega
@[simp, go_sem] theorem ltB10 (n i j a0 a1 a2 a3 a4 a5 a6 a7 a8 a9 : Nat) (h : i < j) : n + i < n + j + a0 + a1 + a2 + a3 + a4 + a5 + a6 + a7 + a8 + a9 := by omega
@[simp, go_sem] theorem ltA11 (n j a0 a1 a2 a3 a4 a5 a6 a7 a8 a9 a10 : Nat) (h : 0 < j) : n < n + j + a0 + a1 + a2 + a3 + a4 + a5 + a6 + a7 + a8 + a9 + a10 := by omega
@[simp, go_sem] theorem ltB11 (n i j a0 a1 a2 a3 a4 a5 a6 a7 a8 a9 a10 : Nat) (h : i < j) : n + i < n + j + a0 + a1 + a2 + a3 + a4 + a5 + a6 + a7 + a8 + a9 + a10 := by omega
@[simp, go_sem] theorem ltA12 (n j a0 a1 a2 a3 a4 a5 a6 a7 a8 a9 a10 a11 : Nat) (h : 0 < j) : n < n + j + a0 + a1 + a2 + a3 + a4 + a5 + a6 + a7 + a8 + a9 + a10 + a11 := by omega
@[simp, go_sem] theorem ltB12 (n i j a0 a1 a2 a3 a4 a5 a6 a7 a8 a9 a10 a11 : Nat) (h : i < j) : n + i < n + j + a0 + a1 + a2 + a3 + a4 + a5 + a6 + a7 + a8 + a9 + a10 + a11 := by omega

/-- new blocks behind all that were there -/
def gw (w : World) (os : Array Obj) : World := { w with heap := w.heap ++ os }

@[simp, go_sem] theorem size_gw (w : World) (os : Array Obj) : (gw w os).heap.size = w.heap.size + os.size := by simp [gw]
@[simp, go_sem] theorem gw_drew (w : World) (os : Array Obj) : gw w.drew os = (gw w os).drew := rfl
@[simp, go_sem] theorem gw_drewN (w : World) (os : Array Obj) (n : Nat) : gw (w.drewN n) os = (gw w os).drewN n := rfl
@[simp, go_sem] theorem tape_gw (w : World) (os : Array Obj) : (gw w os).tape = w.tape := rfl
@[simp, go_sem] theorem drawn_gw (w : World) (os : Array Obj) : (gw w os).drawn = w.drawn := rfl
@[simp, go_sem] theorem os_gw (w : World) (os : Array Obj) : (gw w os).os = w.os := rfl
@[simp, go_sem] theorem output_gw (w : World) (os : Array Obj) : (gw w os).output = w.output := rfl
theorem heap_gw (w : World) (os : Array Obj) (k : Nat) (h : k < w.heap.size) : (gw w os).heap[k]? = w.heap[k]? := by
  show (w.heap ++ os)[k]? = _
  rw [Array.getElem?_append_left h]
@[simp, go_sem] theorem cell_gw (w : World) (os : Array Obj) (b o : Nat) (h : b < w.heap.size) : (gw w os).cell? ⟨b, o, none⟩ = w.cell? ⟨b, o, none⟩ :=
  World.cell?_of_block (w := w) (heap_gw w os b h)
@[simp, go_sem] theorem frozen_gw (w : World) (os : Array Obj) (b o : Nat) (h : b < w.heap.size) : (gw w os).frozen? ⟨b, o, none⟩ = w.frozen? ⟨b, o, none⟩ :=
  World.frozen?_of_block (w := w) (heap_gw w os b h)
@[simp, go_sem] theorem setCell_gw (w : World) (os : Array Obj) (b o : Nat) (v : Value) (h : b < w.heap.size) : (gw w os).setCell ⟨b, o, none⟩ v = gw (w.setCell ⟨b, o, none⟩ v) os := by
  have e : ∀ f : Obj → Obj, (w.heap ++ os).modify b f = w.heap.modify b f ++ os := by
    intro f
    apply Array.ext_getElem?
    intro i
    by_cases hi : i < w.heap.size
    · rw [Array.getElem?_modify, Array.getElem?_append_left hi, Array.getElem?_append_left (by simpa using hi), Array.getElem?_modify]
    · rw [Array.getElem?_modify, Array.getElem?_append_right (by omega), Array.getElem?_append_right (by simp; omega), if_neg (by omega)]
      simp
  simp only [World.setCell, gw, e]
@[simp, go_sem] theorem setCell_drewN (w : World) (n : Nat) (a : Addr) (v : Value) : (w.drewN n).setCell a v = (w.setCell a v).drewN n := rfl
@[simp, go_sem] theorem alloc_drewN (w : World) (n : Nat) (o : Obj) : (w.drewN n).alloc o = (w.alloc o).drewN n := rfl
@[simp] theorem gw_nil (w : World) : gw w #[] = w := by simp [gw]
theorem gw_gw (w : World) (os os' : Array Obj) : gw (gw w os) os' = gw w (os ++ os') := by simp [gw]
theorem alloc_gw (w : World) (o : Obj) : w.alloc o = gw w #[o] := by
  show ({ w with heap := w.heap.push o } : World) = _
  simp [gw]

/-- the builtin min and max, kept whole: no way is parted on them -/
@[go_sem] theorem ite_min (x y : Int) : (if x < y then x else y) = min y x := by omega
@[go_sem] theorem ite_max (x y : Int) : (if x < y then y else x) = max x y := by omega

/-- the world has new blocks, and has been drawn from: no more -/
def Gr (w w' : World) : Prop := ∃ n os, (gw w os).drewN n = w'

theorem Gr.refl (w : World) : Gr w w := ⟨0, #[], by rw [gw_nil]; rfl⟩
theorem Gr.drewN {w w' : World} (h : Gr w w') (n : Nat) : Gr w (w'.drewN n) := by
  obtain ⟨m, os, rfl⟩ := h
  exact ⟨m + n, os, by rw [World.drewN_drewN]⟩
theorem Gr.drew {w w' : World} (h : Gr w w') : Gr w w'.drew := h.drewN 1
theorem Gr.gw {w w' : World} (h : Gr w w') (os : Array Obj) : Gr w (gw w' os) := by
  obtain ⟨m, os', rfl⟩ := h
  exact ⟨m, os' ++ os, by rw [gw_drewN, gw_gw]⟩
theorem Gr.alloc {w w' : World} (h : Gr w w') (o : Obj) : Gr w (w'.alloc o) := by
  rw [alloc_gw]
  exact h.gw _
theorem Gr.trans {a b c : World} (h : Gr a b) (k : Gr b c) : Gr a c := by
  obtain ⟨n, os, rfl⟩ := k
  exact (h.gw os).drewN n
theorem Gr.below {w w' : World} (h : Gr w w') : Below w.heap.size w w' := by
  obtain ⟨n, os, rfl⟩ := h
  exact ⟨rfl, rfl, rfl, by simp, fun k hk => heap_gw w os k hk⟩
theorem Gr.size {w w' : World} (h : Gr w w') : w.heap.size ≤ w'.heap.size := h.below.size

end Go.Proofs.Ytikkmdbaekdolaa
