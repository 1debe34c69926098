/- THREE ROWS OF WORDS THAT A CALL OWNS, to which it appends side by side: none of them lies where another one does. -/
import Derived.Test.YtanebjapcpbdnaaSetRow
import Derived.Maps.AppendAt
import Derived.Deep.CutBlock
import Derived.Deep.DeepCutAuto
import Derived.Deep.RegionHeld3
import Derived.StillTailTactics
namespace Go.Proofs.Ytanebjapcpbdnaa
open Go.RowKit
set_option linter.unusedVariables false

structure Rows3 (W : World) (B : Nat) (v1 v2 v3 : Value) (x1 x2 x3 : List Int) : Prop where
  o1 : W.ownsRow B 22 1 v1 x1.length (x1.map (.int .u64))
  o2 : W.ownsRow B 22 1 v2 x2.length (x2.map (.int .u64))
  o3 : W.ownsRow B 22 1 v3 x3.length (x3.map (.int .u64))
  d12 : ∀ g, v1.ownBlock = some g → v2.ownBlock = some g → False
  d13 : ∀ g, v1.ownBlock = some g → v3.ownBlock = some g → False
  d23 : ∀ g, v2.ownBlock = some g → v3.ownBlock = some g → False

/-- a word in a block of its own, that none of the rows is -/
structure New1 (W : World) (B : Nat) (v1 v2 v3 : Value) (g : Nat) (y : Int) : Prop where
  c : W.cell? ⟨g, 0, none⟩ = some (.int .u64 y)
  n1 : v1.ownBlock ≠ some g
  n2 : v2.ownBlock ≠ some g
  n3 : v3.ownBlock ≠ some g

theorem own_lt3 {W : World} {B n : Nat} {e : TypeId} {v : Value} {xs : List Value} (h : W.ownsRow B e 1 v n xs) {g : Nat} (hg : v.ownBlock = some g) : B ≤ g ∧ g < W.heap.size := by
  rcases h.2 with ⟨rfl, _⟩ | ⟨g', cap, cur, rfl, hb, hh, _⟩
  · cases hg
  · have e : g' = g := by simpa [Value.ownBlock] using hg
    subst e
    exact ⟨hb, (Array.getElem?_eq_some_iff.1 hh).1⟩
theorem own_kept3 {W W' : World} {B n : Nat} {e : TypeId} {v : Value} {xs : List Value} {row : Option Nat} (h : W.ownsRow B e 1 v n xs) (hg : W.grownBy W' row) (hne : ∀ g, v.ownBlock = some g → row = some g → False) : W'.ownsRow B e 1 v n xs := by
  refine ⟨h.1, ?_⟩
  rcases h.2 with h0 | ⟨g, cap, cur, rfl, hb, hh, hr⟩
  · exact .inl h0
  · exact .inr ⟨g, cap, cur, rfl, hb, (hg.block g (Array.getElem?_eq_some_iff.1 hh).1 (fun e => hne g rfl e.symm)).trans hh, hr⟩

theorem Rows3.swap12 {W : World} {B : Nat} {v1 v2 v3 : Value} {x1 x2 x3 : List Int} (h : Rows3 W B v1 v2 v3 x1 x2 x3) : Rows3 W B v2 v1 v3 x2 x1 x3 :=
  ⟨h.o2, h.o1, h.o3, fun g a b => h.d12 g b a, h.d23, h.d13⟩
theorem Rows3.swap13 {W : World} {B : Nat} {v1 v2 v3 : Value} {x1 x2 x3 : List Int} (h : Rows3 W B v1 v2 v3 x1 x2 x3) : Rows3 W B v3 v2 v1 x3 x2 x1 :=
  ⟨h.o3, h.o2, h.o1, fun g a b => h.d23 g b a, fun g a b => h.d13 g b a, fun g a b => h.d12 g b a⟩
theorem New1.swap12 {W : World} {B g : Nat} {v1 v2 v3 : Value} {y : Int} (h : New1 W B v1 v2 v3 g y) : New1 W B v2 v1 v3 g y := ⟨h.c, h.n2, h.n1, h.n3⟩
theorem New1.swap13 {W : World} {B g : Nat} {v1 v2 v3 : Value} {y : Int} (h : New1 W B v1 v2 v3 g y) : New1 W B v3 v2 v1 g y := ⟨h.c, h.n3, h.n2, h.n1⟩
theorem New1.lt {W : World} {B g : Nat} {v1 v2 v3 : Value} {y : Int} (h : New1 W B v1 v2 v3 g y) : g < W.heap.size := World.block_lt_of_cell? W ⟨g, 0, none⟩ h.c

theorem Rows3.alloc {W : World} {B : Nat} {v1 v2 v3 : Value} {x1 x2 x3 : List Int} (h : Rows3 W B v1 v2 v3 x1 x2 x3) (o : Obj) : Rows3 (W.alloc o) B v1 v2 v3 x1 x2 x3 :=
  ⟨h.o1.alloc _, h.o2.alloc _, h.o3.alloc _, h.d12, h.d13, h.d23⟩
theorem New1.alloc {W : World} {B g : Nat} {v1 v2 v3 : Value} {y : Int} (h : New1 W B v1 v2 v3 g y) (o : Obj) : New1 (W.alloc o) B v1 v2 v3 g y :=
  ⟨(World.cell?_alloc_lt _ _ _ h.lt).trans h.c, h.n1, h.n2, h.n3⟩
theorem New1.make {W : World} {B : Nat} {v1 v2 v3 : Value} {x1 x2 x3 : List Int} (h : Rows3 W B v1 v2 v3 x1 x2 x3) (y : Int) (t : TypeId) : New1 (W.alloc (.cells #[.int .u64 y] t (0, 0))) B v1 v2 v3 W.heap.size y :=
  ⟨by rw [cell_of_row _ _ 0 _ _ _ (heap_alloc_new W _)]; rfl, fun e => Nat.lt_irrefl _ (own_lt3 h.o1 e).2, fun e => Nat.lt_irrefl _ (own_lt3 h.o2 e).2, fun e => Nat.lt_irrefl _ (own_lt3 h.o3 e).2⟩

/-- behind an append to the first of them -/
theorem Rows3.app1 {W W' : World} {B : Nat} {v1 v2 v3 v' : Value} {x1 x2 x3 : List Int} {y : Int} (h : Rows3 W B v1 v2 v3 x1 x2 x3) (ho : W'.ownsRow B 22 1 v' (x1.length + 1) (x1.map (.int .u64) ++ [.int .u64 y])) (hg : W.grownBy W' v1.ownBlock)
    (hat : v'.ownBlock = v1.ownBlock ∨ v'.ownBlock = some W.heap.size) : Rows3 W' B v' v2 v3 (x1 ++ [y]) x2 x3 := by
  refine ⟨?_, own_kept3 h.o2 hg (fun g a b => h.d12 g b a), own_kept3 h.o3 hg (fun g a b => h.d13 g b a), fun g a b => ?_, fun g a b => ?_, h.d23⟩
  · rw [List.length_append, List.map_append]
    exact ho
  · rcases hat with e | e
    · exact h.d12 g (e ▸ a) b
    · rw [e] at a
      injection a with a
      subst a
      exact Nat.lt_irrefl _ (own_lt3 h.o2 b).2
  · rcases hat with e | e
    · exact h.d13 g (e ▸ a) b
    · rw [e] at a
      injection a with a
      subst a
      exact Nat.lt_irrefl _ (own_lt3 h.o3 b).2
theorem New1.app1 {W W' : World} {B g : Nat} {v1 v2 v3 v' : Value} {y : Int} (h : New1 W B v1 v2 v3 g y) (hg : W.grownBy W' v1.ownBlock) (hat : v'.ownBlock = v1.ownBlock ∨ v'.ownBlock = some W.heap.size) : New1 W' B v' v2 v3 g y := by
  refine ⟨(World.cell?_of_block (a := ⟨g, 0, none⟩) (hg.block g h.lt (fun e => h.n1 e.symm))).trans h.c, fun a => ?_, h.n2, h.n3⟩
  rcases hat with e | e
  · exact h.n1 (e ▸ a)
  · rw [e] at a
    injection a with a
    have := h.lt
    omega
theorem Rows3.app2 {W W' : World} {B : Nat} {v1 v2 v3 v' : Value} {x1 x2 x3 : List Int} {y : Int} (h : Rows3 W B v1 v2 v3 x1 x2 x3) (ho : W'.ownsRow B 22 1 v' (x2.length + 1) (x2.map (.int .u64) ++ [.int .u64 y])) (hg : W.grownBy W' v2.ownBlock)
    (hat : v'.ownBlock = v2.ownBlock ∨ v'.ownBlock = some W.heap.size) : Rows3 W' B v1 v' v3 x1 (x2 ++ [y]) x3 := (h.swap12.app1 ho hg hat).swap12
theorem Rows3.app3 {W W' : World} {B : Nat} {v1 v2 v3 v' : Value} {x1 x2 x3 : List Int} {y : Int} (h : Rows3 W B v1 v2 v3 x1 x2 x3) (ho : W'.ownsRow B 22 1 v' (x3.length + 1) (x3.map (.int .u64) ++ [.int .u64 y])) (hg : W.grownBy W' v3.ownBlock)
    (hat : v'.ownBlock = v3.ownBlock ∨ v'.ownBlock = some W.heap.size) : Rows3 W' B v1 v2 v' x1 x2 (x3 ++ [y]) := (h.swap13.app1 ho hg hat).swap13
theorem New1.app2 {W W' : World} {B g : Nat} {v1 v2 v3 v' : Value} {y : Int} (h : New1 W B v1 v2 v3 g y) (hg : W.grownBy W' v2.ownBlock) (hat : v'.ownBlock = v2.ownBlock ∨ v'.ownBlock = some W.heap.size) : New1 W' B v1 v' v3 g y := (h.swap12.app1 hg hat).swap12
theorem New1.app3 {W W' : World} {B g : Nat} {v1 v2 v3 v' : Value} {y : Int} (h : New1 W B v1 v2 v3 g y) (hg : W.grownBy W' v3.ownBlock) (hat : v'.ownBlock = v3.ownBlock ∨ v'.ownBlock = some W.heap.size) : New1 W' B v1 v2 v' g y := (h.swap13.app1 hg hat).swap13
theorem Rows3.gr3 {W W' : World} {B : Nat} {v1 v2 v3 : Value} {x1 x2 x3 : List Int} (h : Rows3 W B v1 v2 v3 x1 x2 x3) (k : Gr W W') : Rows3 W' B v1 v2 v3 x1 x2 x3 := by
  have hg : W.grownBy W' none := by
    obtain ⟨h1, h2, h3, h4, h5⟩ := k.below
    exact ⟨h1, h2, h3, h4, fun i hi _ => h5 i hi⟩
  exact ⟨own_kept3 h.o1 hg (fun g _ e => by cases e), own_kept3 h.o2 hg (fun g _ e => by cases e), own_kept3 h.o3 hg (fun g _ e => by cases e), h.d12, h.d13, h.d23⟩
theorem own_stored {W W' : World} {B n g : Nat} {e t : TypeId} {v : Value} {xs : List Value} {new : Array Value} (h : W.ownsRow B e 1 v n xs) (s : Stored W W' g t new) (hg : g < B) : W'.ownsRow B e 1 v n xs := by
  refine ⟨h.1, ?_⟩
  rcases h.2 with h0 | ⟨g', cap, cur, rfl, hb, hh, hr⟩
  · exact .inl h0
  · exact .inr ⟨g', cap, cur, rfl, hb, s.other (RowIs.mk hh) (by omega), hr⟩
theorem Rows3.stored {W W' : World} {B g : Nat} {t : TypeId} {v1 v2 v3 : Value} {x1 x2 x3 : List Int} {new : Array Value} (h : Rows3 W B v1 v2 v3 x1 x2 x3) (s : Stored W W' g t new) (hg : g < B) : Rows3 W' B v1 v2 v3 x1 x2 x3 :=
  ⟨own_stored h.o1 s hg, own_stored h.o2 s hg, own_stored h.o3 s hg, h.d12, h.d13, h.d23⟩
theorem Rows3.nil (W : World) (B : Nat) : Rows3 W B (.slice none 0 0) (.slice none 0 0) (.slice none 0 0) [] [] [] :=
  ⟨World.ownsRow_nil W B _ 1, World.ownsRow_nil W B _ 1, World.ownsRow_nil W B _ 1, (fun g h => by cases h), (fun g h => by cases h), (fun g h => by cases h)⟩

/-- an append to a row of words, where it lies behind it -/
theorem wp_append_at {P : Program} {o : Oper} {a : Act} {w : World} {K : Act → World → Prop} {Q : Exit → Act → World → Prop} (s x : Operand) (t : TypeId)
    (ho : o.op = .call { callee := .builtin .append, args := #[s, x], argTypes := #[t, t] })
    (base : Nat) (e : TypeId) (i : TypeInfo) (z : Value) (bytes : Nat) (ht : P.underlying t = some (.slice e)) (hi : P.info? e = some i) (hz : i.zero = some z)
    (hsize : i.size = 1) (hby : i.bytes = bytes) (hzs : z.cells.size = 1)
    (v : Value) (n : Nat) (xs : List Value) (hs : a.eval s = v) (hown : w.ownsRow base e 1 v n xs)
    (g : Nat) (u : Value) (hx : a.eval x = .slice (some ⟨g, 0, none⟩) 1 1) (hc : w.cell? ⟨g, 0, none⟩ = some u) (h1 : u.oneCell' = true)
    (h63 : n + 1 ≤ maxLen) (hbytes : (n + 1) * bytes ≤ 140737488355328) (hbase : base ≤ w.heap.size)
    (h : ∀ v' w', w'.ownsRow base e 1 v' (n + 1) (xs ++ [u]) → w.grownBy w' v.ownBlock → (v'.ownBlock = v.ownBlock ∨ v'.ownBlock = some w.heap.size) → K (a.put o.dst v') w') : o.wp P a w K Q := by
  obtain ⟨v', w', hr, h2, h3, h4, h5⟩ := run_append_own_at (P := P) w base t o.type e i z 1 bytes ht hi hz hsize hby hzs (by decide) v n xs hown ⟨g, 0, none⟩ 1 1 [u] rfl (fun j y hj => by
    match j, hj with
    | 0, hj => simp at hj; subst hj; simpa [Addr.add] using hc) (fun y hy => by simp at hy; subst hy; exact h1) h63 hbytes hbase
  unfold Oper.wp execOp
  simp only [ho, resolve, invoke, builtin, Sem.run_bind, Sem.run_pure, Result.andThen_ok, List.map_toArray, List.map_cons, List.map_nil, hs, hx, hr]
  exact h v' w' h2 h3 h5

theorem below_grown3 {B : Nat} {a w w' : World} {row : Option Nat} (h : Below B a w) (hg : w.grownBy w' row) (hB : B ≤ w.heap.size) (hr : ∀ k, row = some k → B ≤ k) : Below B a w' :=
  h.trans ⟨hg.os, hg.tape, hg.output, hg.size, fun k hk => hg.block k (by omega) (fun e => by have := hr k e.symm; omega)⟩

end Go.Proofs.Ytanebjapcpbdnaa
