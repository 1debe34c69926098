/- the ways of chapter 28: what lies in memory: fates, items, a way; what a step may change; copy of elements of more than one cell. -/
import Derived.Test.YtikkmdbaekdolaaHeadMark
import Derived.Test.YtikkmdbaekdolaaHold
import Derived.Test.YtikkmdbaekdolaaCopy
namespace Go.Proofs.Ytikkmdbaekdolaa
open Go.RowKit Go.Lib
set_option linter.unusedVariables false
set_option maxRecDepth 100000

/-! ### what a step may change -/
/-- the old blocks that may have turned are among ms -/
structure Chg (ms : Nat → Prop) (w w' : World) : Prop where
  os : w'.os = w.os
  tape : w'.tape = w.tape
  output : w'.output = w.output
  size : w.heap.size ≤ w'.heap.size
  block : ∀ k, k < w.heap.size → ¬ ms k → w'.heap[k]? = w.heap[k]?
theorem Chg.refl (ms : Nat → Prop) (w : World) : Chg ms w w := ⟨rfl, rfl, rfl, Nat.le_refl _, fun _ _ _ => rfl⟩
theorem Chg.trans {ms ms' : Nat → Prop} {a b c : World} (h : Chg ms a b) (k : Chg ms' b c) (hm : ∀ i, ms' i → ms i ∨ a.heap.size ≤ i) : Chg ms a c :=
  ⟨k.os.trans h.os, k.tape.trans h.tape, k.output.trans h.output, Nat.le_trans h.size k.size, fun i hi hn => (k.block i (Nat.lt_of_lt_of_le hi h.size) (fun e => (hm i e).elim hn (fun h => absurd hi (by omega)))).trans (h.block i hi hn)⟩
theorem Chg.mono {ms ms' : Nat → Prop} {a b : World} (h : Chg ms a b) (hm : ∀ i, i < a.heap.size → ms i → ms' i) : Chg ms' a b :=
  ⟨h.os, h.tape, h.output, h.size, fun i hi hn => h.block i hi (fun e => hn (hm i hi e))⟩
theorem Chg.below {ms : Nat → Prop} {a b : World} {B : Nat} (h : Chg ms a b) (hB : B ≤ a.heap.size) (hm : ∀ i, ms i → B ≤ i) : Below B a b :=
  ⟨h.os, h.tape, h.output, h.size, fun i hi => h.block i (by omega) (fun e => by have := hm i e; omega)⟩
theorem Chg.ofBelow {ms : Nat → Prop} {a b : World} (h : Below a.heap.size a b) : Chg ms a b := ⟨h.os, h.tape, h.output, h.size, fun i hi _ => h.block i hi⟩
theorem Chg.ofGrown {a b : World} {row : Option Nat} (h : a.grownBy b row) : Chg (fun i => row = some i) a b := ⟨h.os, h.tape, h.output, h.size, fun i hi hn => h.block i hi (fun e => hn e.symm)⟩
theorem Chg.setCell (w : World) (D i : Nat) (u : Value) : Chg (fun k => k = D) w (w.setCell ⟨D, i, none⟩ u) :=
  ⟨rfl, rfl, rfl, by simp [World.setCell], fun k _ hn => kept_set w _ u k hn⟩
theorem Chg.setRow (w : World) (D : Nat) (cs : Array Value) : Chg (fun k => k = D) w (w.setRow D cs) :=
  ⟨rfl, rfl, rfl, by simp [World.setRow], fun k _ hn => setRow_other w D k cs hn⟩
theorem Chg.alloc {ms : Nat → Prop} (w : World) (o : Obj) : Chg ms w (w.alloc o) := Chg.ofBelow ((Below.refl _ _).alloc (Nat.le_refl _) _)
theorem Chg.drewN {ms : Nat → Prop} (w : World) (n : Nat) : Chg ms w (w.drewN n) := Chg.ofBelow (Gr.below (Gr.drewN (Gr.refl _) _))
theorem Chg.row {ms : Nat → Prop} {w w' : World} {g : Nat} {t : TypeId} {cs : Array Value} (h : RowIs w g t cs) (k : Chg ms w w') (hg : ¬ ms g) : RowIs w' g t cs := (k.block g h.lt hg).trans h
theorem Chg.own {ms : Nat → Prop} {w w' : World} {B n s : Nat} {e : TypeId} {v : Value} {xs : List Value} (h : w.ownsRow B e s v n xs) (k : Chg ms w w') (hg : ∀ g, v.ownBlock = some g → ¬ ms g) : w'.ownsRow B e s v n xs := by
  obtain ⟨h1, h2 | ⟨g, c, cur, rfl, hb, hh, rest⟩⟩ := h
  · exact ⟨h1, .inl h2⟩
  · exact ⟨h1, .inr ⟨g, c, cur, rfl, hb, (k.block g (Array.getElem?_eq_some_iff.1 hh).1 (hg g rfl)).trans hh, rest⟩⟩
theorem Chg.cell {ms : Nat → Prop} {w w' : World} {g o : Nat} (k : Chg ms w w') (hl : g < w.heap.size) (hg : ¬ ms g) : w'.cell? ⟨g, o, none⟩ = w.cell? ⟨g, o, none⟩ := World.cell?_of_block (k.block g hl hg)

/-! ### bytes that no step changes -/
/-- these bytes, in a block that is none of those that steps may change -/
def BodyF (w : World) (ms : Nat → Prop) (v : Value) (bs : List Int) : Prop := BodyAt w v bs ∧ (bs ≠ [] → ∀ g, v.ownBlock = some g → ¬ ms g)
theorem BodyF.chg {ms ms0 ms' : Nat → Prop} {w w' : World} {v : Value} {bs : List Int} (h : BodyF w ms v bs) (k : Chg ms0 w w') (h0 : ∀ i, i < w.heap.size → ms0 i → ms i) (h1 : ∀ i, i < w.heap.size → ms' i → ms i) : BodyF w' ms' v bs := by
  obtain ⟨hb, hn⟩ := h
  rcases hb with hb | ⟨g, o, c, rfl, l1, l2, l3, b1, b2⟩
  · exact ⟨.inl hb, fun hne => absurd hb.choose_spec.choose_spec.2.2 hne⟩
  · have hne : bs ≠ [] := fun e => by subst e; simp at l1
    have hg := hn hne g rfl
    refine ⟨.inr ⟨g, o, c, rfl, l1, l2, l3, Nat.lt_of_lt_of_le b1 k.size, fun i hi => (k.cell b1 (fun e => hg (h0 g b1 e))).trans (b2 i hi)⟩, fun _ g' e => ?_⟩
    cases e
    exact fun e => hg (h1 g b1 e)
theorem BodyF.at {ms : Nat → Prop} {w : World} {v : Value} {bs : List Int} (h : BodyF w ms v bs) : BodyAt w v bs := h.1

/-! ### fates -/
structure FateP where
  drop : Bool
  twice : Bool
  mark : Bool
  delay : Int
def zF : FateP := ⟨false, false, false, 0⟩
def FAt (w : World) (g o : Nat) (l : List FateP) : Prop := g < w.heap.size ∧ ∀ i, i < l.length →
  w.cell? ⟨g, o + i * 4, none⟩ = some (.bool (l.getD i zF).drop) ∧ w.cell? ⟨g, o + i * 4 + 1, none⟩ = some (.bool (l.getD i zF).twice) ∧ w.cell? ⟨g, o + i * 4 + 2, none⟩ = some (.bool (l.getD i zF).mark) ∧ w.cell? ⟨g, o + i * 4 + 3, none⟩ = some (.int .u64 (l.getD i zF).delay)
def FRow (w : World) (x : Option Addr) (l : List FateP) : Prop := l = [] ∨ ∃ g o, x = some ⟨g, o, none⟩ ∧ FAt w g o l
theorem FRow.chg {ms : Nat → Prop} {w w' : World} {x : Option Addr} {l : List FateP} (h : FRow w x l) (k : Chg ms w w') (hx : ∀ g o, l ≠ [] → x = some ⟨g, o, none⟩ → ¬ ms g) : FRow w' x l := by
  rcases h with h | ⟨g, o, rfl, hl, hc⟩
  · exact .inl h
  · by_cases he : l = []
    · exact .inl he
    have hg := hx g o he rfl
    exact .inr ⟨g, o, rfl, Nat.lt_of_lt_of_le hl k.size, fun i hi => by
      obtain ⟨h0, h1, h2, h3⟩ := hc i hi
      exact ⟨(k.cell hl hg).trans h0, (k.cell hl hg).trans h1, (k.cell hl hg).trans h2, (k.cell hl hg).trans h3⟩⟩
def flatFa (l : List FateP) : List Value := l.flatMap fun d => [.bool d.drop, .bool d.twice, .bool d.mark, .int .u64 d.delay]
theorem flatFa_len : ∀ l : List FateP, (flatFa l).length = l.length * 4
  | [] => rfl
  | d :: l => by
    have := flatFa_len l
    simp only [flatFa, List.flatMap_cons, List.length_append, List.length_cons, List.length_nil] at this ⊢
    omega
theorem flatFa_one : ∀ (l : List FateP), ∀ u ∈ flatFa l, u.oneCell' = true
  | [], u, h => by simp [flatFa] at h
  | d :: l, u, h => by
    simp only [flatFa, List.flatMap_cons, List.mem_append, List.mem_cons, List.not_mem_nil, or_false] at h
    rcases h with (rfl | rfl | rfl | rfl) | h
    iterate 4 (· rfl)
    exact flatFa_one l u h
theorem flatFa_at : ∀ (l : List FateP) (j : Nat), j < l.length * 4 → (flatFa l)[j]? = ([.bool (l.getD (j / 4) zF).drop, .bool (l.getD (j / 4) zF).twice, .bool (l.getD (j / 4) zF).mark, .int .u64 (l.getD (j / 4) zF).delay] : List Value)[j % 4]?
  | [], j, h => by simp at h
  | d :: l, j, h => by
    have e : flatFa (d :: l) = [.bool d.drop, .bool d.twice, .bool d.mark, .int .u64 d.delay] ++ flatFa l := by simp [flatFa]
    rw [e]
    by_cases h4 : j < 4
    · rw [List.getElem?_append_left (by simpa using h4), show j / 4 = 0 by omega, show j % 4 = j by omega]
      rfl
    · rw [List.getElem?_append_right (by simp; omega)]
      have := flatFa_at l (j - 4) (by simp only [List.length_cons] at h; omega)
      simp only [List.length_cons, List.length_nil]
      rw [this, show j / 4 = (j - 4) / 4 + 1 by omega, show j % 4 = (j - 4) % 4 by omega]
      rfl
theorem FRow.news {w : World} {x : Option Addr} {l : List FateP} (hx : x = none → l = []) (h : FRow w x l) : (x = none ∧ l.length = 0) ∨ ∃ a, x = some a ∧ ∀ j u, (flatFa l)[j]? = some u → w.cell? (a.add j) = some u := by
  cases x with
  | none => exact .inl ⟨rfl, by rw [hx rfl]; rfl⟩
  | some a =>
    rcases h with rfl | ⟨g, o, e, k⟩
    · exact .inr ⟨a, rfl, fun j u hu => by simp [flatFa] at hu⟩
    · cases e
      refine .inr ⟨_, rfl, fun j u hu => ?_⟩
      have hj : j < l.length * 4 := by
        have := (List.getElem?_eq_some_iff.1 hu).1
        rwa [flatFa_len] at this
      rw [flatFa_at l j hj] at hu
      obtain ⟨q0, q1, q2, q3⟩ := k.2 (j / 4) (by omega)
      have ha : ∀ r, j % 4 = r → (⟨g, o, none⟩ : Addr).add j = ⟨g, o + j / 4 * 4 + r, none⟩ := fun r hr => by
        rw [addr_add]
        congr 1
        omega
      rcases (by omega : j % 4 = 0 ∨ j % 4 = 1 ∨ j % 4 = 2 ∨ j % 4 = 3) with e | e | e | e <;> rw [e] at hu <;> rw [ha _ e] <;> simp only [List.getElem?_cons_zero, List.getElem?_cons_succ, Option.some.injEq] at hu <;> subst hu <;> first | exact q0 | exact q1 | exact q2 | exact q3
theorem fateOfOwn {w : World} {B n : Nat} {v : Value} {l : List FateP} (hn : l.length = n) (h : w.ownsRow B 119 4 v n (flatFa l)) : ∃ x c, v = .slice x n c ∧ FRow w x l ∧ (x = none → l = []) ∧ ∀ g o, x = some ⟨g, o, none⟩ → B ≤ g ∧ g < w.heap.size := by
  obtain ⟨hlen, ⟨rfl, h2⟩ | ⟨g, c, cur, rfl, hg, hheap, hc, hm, hcs, htake⟩⟩ := h
  · subst h2
    exact ⟨none, 0, rfl, .inl (List.eq_nil_of_length_eq_zero hn), fun _ => List.eq_nil_of_length_eq_zero hn, fun g o h => by cases h⟩
  · refine ⟨_, c, rfl, .inr ⟨g, 0, rfl, (Array.getElem?_eq_some_iff.1 hheap).1, fun i hi => ?_⟩, (fun h => by cases h), fun g' o' h => by cases h; exact ⟨hg, (Array.getElem?_eq_some_iff.1 hheap).1⟩⟩
    have hat : ∀ k, k < 4 → w.cell? ⟨g, 0 + i * 4 + k, none⟩ = ([.bool (l.getD i zF).drop, .bool (l.getD i zF).twice, .bool (l.getD i zF).mark, .int .u64 (l.getD i zF).delay] : List Value)[k]? := fun k hk => by
      have e1 := flatFa_at l (i * 4 + k) (by omega)
      rw [show (i * 4 + k) / 4 = i by omega, show (i * 4 + k) % 4 = k by omega] at e1
      rw [← e1, ← htake, List.getElem?_take, if_pos (by omega), cell_of_row w g _ cur _ _ hheap, Nat.zero_add]
      simp
    exact ⟨hat 0 (by omega), hat 1 (by omega), hat 2 (by omega), hat 3 (by omega)⟩

/-! ### items -/
structure Itm where
  at_ : Int
  v : Value
  bs : List Int
def zI : Itm := ⟨0, .slice none 0 0, []⟩
def flatI (l : List Itm) : List Value := l.flatMap fun d => [.int .u64 d.at_, d.v]
theorem flatI_app (l k : List Itm) : flatI (l ++ k) = flatI l ++ flatI k := by simp [flatI]
theorem flatI_len : ∀ l : List Itm, (flatI l).length = l.length * 2
  | [] => rfl
  | d :: l => by
    have := flatI_len l
    simp only [flatI, List.flatMap_cons, List.length_append, List.length_cons, List.length_nil] at this ⊢
    omega
theorem flatI_take (l : List Itm) (k : Nat) (hk : k ≤ l.length) : (flatI l).take (k * 2) = flatI (l.take k) := by
  have h : flatI l = flatI (l.take k) ++ flatI (l.drop k) := by rw [← flatI_app, List.take_append_drop]
  have h2 : (flatI (l.take k)).length = k * 2 := by rw [flatI_len, List.length_take, Nat.min_eq_left hk]
  rw [h, List.take_append_of_le_length (by omega), List.take_of_length_le (by omega)]
theorem flatI_drop (l : List Itm) (k : Nat) (hk : k ≤ l.length) : (flatI l).drop (k * 2) = flatI (l.drop k) := by
  have h : flatI l = flatI (l.take k) ++ flatI (l.drop k) := by rw [← flatI_app, List.take_append_drop]
  have h2 : (flatI (l.take k)).length = k * 2 := by rw [flatI_len, List.length_take, Nat.min_eq_left hk]
  rw [h, ← h2, List.drop_left]
theorem flatI_at : ∀ (l : List Itm) (i : Nat), i < l.length → (flatI l)[i * 2]? = some (.int .u64 (l.getD i zI).at_) ∧ (flatI l)[i * 2 + 1]? = some (l.getD i zI).v
  | [], i, h => by simp at h
  | d :: l, 0, _ => ⟨rfl, rfl⟩
  | d :: l, i + 1, h => by
    have e : flatI (d :: l) = [.int .u64 d.at_, d.v] ++ flatI l := by simp [flatI]
    have := flatI_at l i (by simpa using h)
    rw [e, List.getElem?_append_right (by simp; omega), List.getElem?_append_right (by simp; omega)]
    simp only [List.length_cons, List.length_nil]
    rw [show (i + 1) * 2 - (0 + 1 + 1) = i * 2 by omega, show (i + 1) * 2 + 1 - (0 + 1 + 1) = i * 2 + 1 by omega]
    exact this

/-! ### copy of elements of several cells, within a row or from another one -/
section
variable {P : Program} (w : World)
theorem run_copy_rowN (dT sT ty elem : TypeId) (size : Nat) (g o dLen dCap : Nat) (a : Addr) (sLen sCap : Nat) (cur : Array Value) (t : TypeId) (cs : List Value) (m : Nat)
    (hu : P.underlying dT = some (.slice elem)) (hs : (P.info? elem).map (·.size) = some size)
    (hg : w.heap[g]? = some (.cells cur t (0, 0))) (hm : m = Nat.min sLen dLen) (hn : cs.length = m * size)
    (hsrc : ∀ j v, cs[j]? = some v → w.cell? (a.add j) = some v) (hfit : o + cs.length ≤ cur.size) (h1 : ∀ v ∈ cs, v.oneCell' = true) :
    (Builtin.copy_ #[dT, sT] ty #[.slice (some ⟨g, o, none⟩) dLen dCap, .slice (some a) sLen sCap]).run P w =
      .ok (goInt m) (w.setRow g (cur.toList.take o ++ cs ++ cur.toList.drop (o + cs.length)).toArray) := by
  have hl := run_loadCells_list (P := P) w a cs hsrc
  have hst := run_storeCells_at P g o t cs 0 cur w hg (by simpa using hfit) h1
  cases hq : P.info? elem with
  | none => simp [hq] at hs
  | some i =>
    have hi : i.size = size := by simpa [hq] using hs
    simp [Builtin.copy_, run_underlying hu, Builtin.lenOf, Builtin.firstCells, sizeOf, typeInfo, hq, hi, ← hm, ← hn, hl, hst]
end

end Go.Proofs.Ytikkmdbaekdolaa
