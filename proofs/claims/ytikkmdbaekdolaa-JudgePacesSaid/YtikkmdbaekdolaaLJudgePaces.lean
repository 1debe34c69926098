/- For all rows, slices sizes of words, words burst and both values of small, JudgePaces returns true: Paced agrees with the definition. No condition. -/
import Derived.Test.YtikkmdbaekdolaaBase
import Derived.Test.YtikkmdbaekdolaaAliveJ
import Derived.Test.YtikkmdbaekdolaaJgA
import Derived.Test.YtikkmdbaekdolaaJgC
import Derived.Test.YtikkmdbaekdolaaJgD
namespace Go.Proofs.Ytikkmdbaekdolaa.judgePaces
open Go.ChangeShapes Go.WideShapes Go.ChangeAt Go.RowKit Go.Lib
set_option linter.unusedVariables false
set_option maxRecDepth 100000

theorem boolOf (p : Prop) : ∃ B : Bool, B = true ↔ p := by
  by_cases h : p
  · exact ⟨true, by simp [h]⟩
  · exact ⟨false, by simp [h]⟩

/-- the number in a cell -/
def intAt (w : World) (b o : Nat) : Int := match w.cell? ⟨b, o, none⟩ with | some (.int _ v) => v | _ => 0
/-- m cells in a row, as they lie -/
def flatW (w : World) (b o m : Nat) : List Value := (List.range m).map fun j => (w.cell? ⟨b, o + j, none⟩).getD (.int .u64 0)
theorem flatW_len (w : World) (b o m : Nat) : (flatW w b o m).length = m := by simp [flatW]
theorem flatW_at (w : World) (b o m j : Nat) (h : j < m) : (flatW w b o m)[j]? = some ((w.cell? ⟨b, o + j, none⟩).getD (.int .u64 0)) := by
  unfold flatW
  rw [List.getElem?_map, List.getElem?_range h]
  rfl
/-- cells that are all numbers -/
def NumsAt (w : World) (b o m : Nat) : Prop := ∀ j, j < m → ∃ k v, w.cell? ⟨b, o + j, none⟩ = some (.int k v)
theorem NumsAt.news {w w' : World} {b o m : Nat} (h : NumsAt w b o m) (hc : ∀ j, w'.cell? ⟨b, j, none⟩ = w.cell? ⟨b, j, none⟩) : ∀ j u, (flatW w b o m)[j]? = some u → w'.cell? ((⟨b, o, none⟩ : Addr).add j) = some u := fun j u hu => by
  have hj : j < m := by
    have := (List.getElem?_eq_some_iff.1 hu).1
    rwa [flatW_len] at this
  obtain ⟨k, v, hv⟩ := h j hj
  rw [flatW_at w b o m j hj, hv] at hu
  rw [addr_add, hc, hv]
  exact hu
theorem NumsAt.one {w : World} {b o m : Nat} (h : NumsAt w b o m) : ∀ u ∈ flatW w b o m, u.oneCell' = true := fun u hu => by
  obtain ⟨j, hj⟩ := List.getElem?_of_mem hu
  have hlt : j < m := by
    have := (List.getElem?_eq_some_iff.1 hj).1
    rwa [flatW_len] at this
  obtain ⟨k, v, hv⟩ := h j hlt
  rw [flatW_at w b o m j hlt, hv] at hj
  cases hj
  rfl
theorem fitNum : ∀ (ks : List (Option IntKind)) (cs : List Value) (j : Nat), Fits ks cs → j < cs.length → (∀ k ∈ ks, k.isSome = true) → ∃ k v, cs[j]? = some (.int k v)
  | [], [], j, _, h, _ => by simp at h
  | some k :: ks, c :: cs, 0, h, _, _ => by
    obtain ⟨⟨v, e, _⟩, _⟩ := h
    exact ⟨k, v, by rw [List.getElem?_cons_zero, e]⟩
  | some k :: ks, c :: cs, j + 1, h, hl, hs => by
    obtain ⟨k', v, e⟩ := fitNum ks cs j h.2 (by simpa using hl) (fun k hk => hs k (by simp [hk]))
    exact ⟨k', v, by rw [List.getElem?_cons_succ, e]⟩
  | none :: ks, c :: cs, j, _, _, hs => by have := hs none (by simp); simp at this
  | [], _ :: _, j, h, _, _ => h.elim
  | some _ :: _, [], j, h, _, _ => h.elim
/-- what is known of rows that came in, two cells of each -/
def RowsIn (w : World) (x : Option Addr) (n c : Nat) (N R : Nat → Int) : Prop := n ≤ c ∧ c ≤ 9223372036854775807 ∧ (n = 0 ∨ ∃ b o, x = some ⟨b, o, none⟩ ∧ b < w.heap.size ∧ NumsAt w b o (n * 22) ∧ ∀ i, i < n → w.cell? ⟨b, o + i * 22 + 1, none⟩ = some (.int .u64 (N i)) ∧ w.cell? ⟨b, o + i * 22 + 10, none⟩ = some (.int .u64 (R i)) ∧ W64 (N i) ∧ W64 (R i))
def WordsIn (w : World) (x : Option Addr) (n c : Nat) (S : Nat → Int) : Prop := n ≤ c ∧ c ≤ 9223372036854775807 ∧ (n = 0 ∨ ∃ b o, x = some ⟨b, o, none⟩ ∧ b < w.heap.size ∧ NumsAt w b o n ∧ ∀ i, i < n → w.cell? ⟨b, o + i, none⟩ = some (.int .u64 (S i)) ∧ W64 (S i))
theorem rowsIn {w : World} {x : Option Addr} {n c : Nat} (h : IsRowsF w x n c 22 [some .i64, some .u64, some .u64, some .u64, some .u64, some .u64, some .u64, some .u64, some .u64, some .u64, some .u64, some .u64, some .u64, some .u64, some .u64, some .u64, some .u64, some .u64, some .u64, some .u64, some .u64, some .i64]) : ∃ N R, RowsIn w x n c N R := by
  have hc : n ≤ c ∧ c ≤ 9223372036854775807 := by
    rcases h with ⟨_, rfl, rfl⟩ | ⟨_, _, h1, h2, _⟩
    · exact ⟨Nat.le_refl _, by omega⟩
    · unfold maxLen at h2; exact ⟨h1, h2⟩
  refine ⟨fun i => match x with | some a => intAt w a.block (a.off + i * 22 + 1) | none => 0, fun i => match x with | some a => intAt w a.block (a.off + i * 22 + 10) | none => 0, hc.1, hc.2, ?_⟩
  rcases h.plain (by omega) with rfl | ⟨h0, hm, b, off, rfl, hb, hx⟩
  · exact .inl rfl
  · have hnum : ∀ i j, i < n → j < 22 → ∃ k v, w.cell? ⟨b, off + (i * 22 + j), none⟩ = some (.int k v) := fun i j hi hj => by
      obtain ⟨cs, hf, hl, hat⟩ := hx i hi
      rw [hat j hj]
      exact fitNum _ cs j hf (by rw [hl]; exact hj) (by simp)
    refine .inr ⟨b, off, rfl, hb, fun j hj => ?_, fun i hi => ?_⟩
    · have := hnum (j / 22) (j % 22) (by omega) (Nat.mod_lt _ (by omega))
      rwa [show j / 22 * 22 + j % 22 = j by omega] at this
    · obtain ⟨cs, hf, hl, hat⟩ := hx i hi
      match cs, hl with
      | [c0, c1, c2, c3, c4, c5, c6, c7, c8, c9, c10, c11, c12, c13, c14, c15, c16, c17, c18, c19, c20, c21], _ =>
        obtain ⟨_, ⟨v1, e1, w1⟩, _, _, _, _, _, _, _, _, ⟨v10, e10, w10⟩, _⟩ := hf
        have q1 := hat 1 (by omega)
        have q10 := hat 10 (by omega)
        rw [← Nat.add_assoc] at q1 q10
        have q1 : w.cell? ⟨b, off + i * 22 + 1, none⟩ = some (.int .u64 v1) := by rw [q1, ← e1]; rfl
        have q10 : w.cell? ⟨b, off + i * 22 + 10, none⟩ = some (.int .u64 v10) := by rw [q10, ← e10]; rfl
        have i1 : intAt w b (off + i * 22 + 1) = v1 := by unfold intAt; rw [q1]
        have i10 : intAt w b (off + i * 22 + 10) = v10 := by unfold intAt; rw [q10]
        simp only [i1, i10]
        exact ⟨q1, q10, wfU64 w1, wfU64 w10⟩
theorem wordsIn {w : World} {x : Option Addr} {n c : Nat} {z : List Int} (h : IsRow .u64 w x n c z) : WordsIn w x n c (fun i => z.getD i 0) := by
  have hc : n ≤ c ∧ c ≤ 9223372036854775807 := by
    rcases h with ⟨_, rfl, rfl, _⟩ | ⟨_, _, h1, h2, _⟩
    · exact ⟨Nat.le_refl _, by omega⟩
    · unfold maxLen at h2; exact ⟨h1, h2⟩
  rcases h.plain with rfl | ⟨h0, hm, b, off, rfl, hb, hcell, hwz⟩
  · exact ⟨hc.1, hc.2, .inl rfl⟩
  · exact ⟨hc.1, hc.2, .inr ⟨b, off, rfl, hb, fun j hj => ⟨_, _, hcell j hj⟩, fun i hi => ⟨hcell i hi, wfU64 (hwz i hi)⟩⟩⟩
/-- the cells that an append copies -/
def Copied (w : World) (x : Option Addr) (n : Nat) (news : List Value) : Prop := ∀ W, Below w.heap.size w W → (x = none ∧ n = 0) ∨ ∃ a, x = some a ∧ ∀ j u, news[j]? = some u → W.cell? (a.add j) = some u
theorem copiedNil (w : World) (x : Option Addr) : Copied w x 0 [] := fun W _ => by
  cases x with
  | none => exact .inl ⟨rfl, rfl⟩
  | some a => exact .inr ⟨a, rfl, fun j u hu => by simp at hu⟩
theorem RowsIn.news {w : World} {x : Option Addr} {n c : Nat} {N R : Nat → Int} (h : RowsIn w x n c N R) : ∃ news : List Value, news.length = n * 22 ∧ (∀ u ∈ news, u.oneCell' = true) ∧ Copied w x n news ∧ ∀ i, i < n → news[i * 22 + 1]? = some (.int .u64 (N i)) ∧ news[i * 22 + 10]? = some (.int .u64 (R i)) ∧ W64 (N i) ∧ W64 (R i) := by
  rcases h.2.2 with rfl | ⟨b, o, rfl, hb, hn, hx⟩
  · exact ⟨[], by simp, fun u hu => absurd hu (by simp), copiedNil w x, fun i hi => absurd hi (by omega)⟩
  · refine ⟨flatW w b o (n * 22), flatW_len _ _ _ _, hn.one, fun W hW => .inr ⟨_, rfl, hn.news (fun j => hW.cell (p := ⟨b, j, none⟩) hb)⟩, fun i hi => ?_⟩
    obtain ⟨h1, h2, h3, h4⟩ := hx i hi
    exact ⟨by rw [flatW_at w b o _ _ (by omega), ← Nat.add_assoc, h1]; rfl, by rw [flatW_at w b o _ _ (by omega), ← Nat.add_assoc, h2]; rfl, h3, h4⟩
theorem WordsIn.news {w : World} {x : Option Addr} {n c : Nat} {S : Nat → Int} (h : WordsIn w x n c S) : ∃ news : List Value, news.length = n * 1 ∧ (∀ u ∈ news, u.oneCell' = true) ∧ Copied w x n news ∧ ∀ i, i < n → news[i]? = some (.int .u64 (S i)) ∧ W64 (S i) := by
  rcases h.2.2 with rfl | ⟨b, o, rfl, hb, hn, hx⟩
  · exact ⟨[], by simp, fun u hu => absurd hu (by simp), copiedNil w x, fun i hi => absurd hi (by omega)⟩
  · refine ⟨flatW w b o n, by rw [flatW_len, Nat.mul_one], hn.one, fun W hW => .inr ⟨_, rfl, hn.news (fun j => hW.cell (p := ⟨b, j, none⟩) hb)⟩, fun i hi => ?_⟩
    obtain ⟨h1, h3⟩ := hx i hi
    exact ⟨by rw [flatW_at w b o _ _ hi, h1]; rfl, h3⟩
/-- rows of the call's own -/
def RowO (w : World) (g n : Nat) (N R : Nat → Int) : Prop := ∃ cur, w.heap[g]? = some (.cells cur 102 (0, 0)) ∧ ∀ i, i < n → cur[i * 22 + 1]? = some (.int .u64 (N i)) ∧ cur[i * 22 + 10]? = some (.int .u64 (R i))
def WordO (w : World) (g n : Nat) (S : Nat → Int) : Prop := ∃ cur, w.heap[g]? = some (.cells cur 22 (0, 0)) ∧ ∀ i, i < n → cur[i]? = some (.int .u64 (S i))
theorem RowO.at {w : World} {g n : Nat} {N R : Nat → Int} (h : RowO w g n N R) : RowsAt w g 0 n N R := by
  obtain ⟨cur, h1, h2⟩ := h
  exact ⟨(Array.getElem?_eq_some_iff.1 h1).1, fun i hi => ⟨by rw [cell_of_row w g _ cur _ _ h1, Nat.zero_add]; exact (h2 i hi).1, by rw [cell_of_row w g _ cur _ _ h1, Nat.zero_add]; exact (h2 i hi).2⟩⟩
theorem WordO.at {w : World} {g n : Nat} {S : Nat → Int} (h : WordO w g n S) : WordsAt w g 0 n S := by
  obtain ⟨cur, h1, h2⟩ := h
  exact ⟨(Array.getElem?_eq_some_iff.1 h1).1, fun i hi => by rw [cell_of_row w g _ cur _ _ h1, Nat.zero_add]; exact h2 i hi⟩
theorem frozenO {w : World} {g : Nat} {cur : Array Value} {t : TypeId} (h : w.heap[g]? = some (.cells cur t (0, 0))) (j : Nat) : w.frozen? ⟨g, j, none⟩ = false := by
  simp [World.frozen?, h]
theorem RowO.fz {w : World} {g n : Nat} {N R : Nat → Int} (h : RowO w g n N R) (j : Nat) : w.frozen? ⟨g, j, none⟩ = false := by obtain ⟨cur, h1, _⟩ := h; exact frozenO h1 j
theorem WordO.fz {w : World} {g n : Nat} {S : Nat → Int} (h : WordO w g n S) (j : Nat) : w.frozen? ⟨g, j, none⟩ = false := by obtain ⟨cur, h1, _⟩ := h; exact frozenO h1 j
theorem RowO.lt {w : World} {g n : Nat} {N R : Nat → Int} (h : RowO w g n N R) : g < w.heap.size := by obtain ⟨cur, h1, _⟩ := h; exact (Array.getElem?_eq_some_iff.1 h1).1
theorem WordO.lt {w : World} {g n : Nat} {S : Nat → Int} (h : WordO w g n S) : g < w.heap.size := by obtain ⟨cur, h1, _⟩ := h; exact (Array.getElem?_eq_some_iff.1 h1).1
theorem RowO.below {w w' : World} {g n B : Nat} {N R : Nat → Int} (h : RowO w g n N R) (hg : g < B) (hb : Below B w w') : RowO w' g n N R := by obtain ⟨cur, h1, h2⟩ := h; exact ⟨cur, (hb.block g hg).trans h1, h2⟩
theorem WordO.below {w w' : World} {g n B : Nat} {S : Nat → Int} (h : WordO w g n S) (hg : g < B) (hb : Below B w w') : WordO w' g n S := by obtain ⟨cur, h1, h2⟩ := h; exact ⟨cur, (hb.block g hg).trans h1, h2⟩
theorem heapFar (w : World) (g h j : Nat) (v : Value) (hne : h ≠ g) : (w.setCell ⟨h, j, none⟩ v).heap[g]? = w.heap[g]? := kept_set w _ v g (fun e => hne e.symm)
theorem RowO.far {w : World} {g n h j : Nat} {N R : Nat → Int} (k : RowO w g n N R) (hne : h ≠ g) (v : Value) : RowO (w.setCell ⟨h, j, none⟩ v) g n N R := by obtain ⟨cur, h1, h2⟩ := k; exact ⟨cur, (heapFar w g h j v hne).trans h1, h2⟩
theorem WordO.far {w : World} {g n h j : Nat} {S : Nat → Int} (k : WordO w g n S) (hne : h ≠ g) (v : Value) : WordO (w.setCell ⟨h, j, none⟩ v) g n S := by obtain ⟨cur, h1, h2⟩ := k; exact ⟨cur, (heapFar w g h j v hne).trans h1, h2⟩
theorem WordO.set {w : World} {g n i : Nat} {S : Nat → Int} (k : WordO w g n S) (v : Int) : WordO (w.setCell ⟨g, i, none⟩ (.int .u64 v)) g n (fun j => if j = i then v else S j) := by
  obtain ⟨cur, h1, h2⟩ := k
  refine ⟨_, heap_set_self w g i _ cur _ _ h1, fun j hj => ?_⟩
  have hz := (Array.getElem?_eq_some_iff.1 (h2 j hj)).1
  rw [Array.getElem?_setIfInBounds]
  dsimp only
  by_cases e : i = j
  · subst e
    rw [if_pos rfl, if_pos hz, if_pos rfl]
  · rw [if_neg e, if_neg (fun h => e h.symm)]
    exact h2 j hj
theorem RowO.setN {w : World} {g n i : Nat} {N R : Nat → Int} (k : RowO w g n N R) (v : Int) : RowO (w.setCell ⟨g, i * 22 + 1, none⟩ (.int .u64 v)) g n (fun j => if j = i then v else N j) R := by
  obtain ⟨cur, h1, h2⟩ := k
  refine ⟨_, heap_set_self w g _ _ cur _ _ h1, fun j hj => ?_⟩
  have hz := (Array.getElem?_eq_some_iff.1 (h2 j hj).1).1
  rw [Array.getElem?_setIfInBounds, Array.getElem?_setIfInBounds]
  dsimp only
  constructor
  · by_cases e : i = j
    · subst e
      rw [if_pos rfl, if_pos hz, if_pos rfl]
    · rw [if_neg (by omega), if_neg (fun h => e h.symm)]
      exact (h2 j hj).1
  · rw [if_neg (by omega)]
    exact (h2 j hj).2
theorem RowO.setR {w : World} {g n i : Nat} {N R : Nat → Int} (k : RowO w g n N R) (v : Int) : RowO (w.setCell ⟨g, i * 22 + 10, none⟩ (.int .u64 v)) g n N (fun j => if j = i then v else R j) := by
  obtain ⟨cur, h1, h2⟩ := k
  refine ⟨_, heap_set_self w g _ _ cur _ _ h1, fun j hj => ?_⟩
  have hz := (Array.getElem?_eq_some_iff.1 (h2 j hj).2).1
  rw [Array.getElem?_setIfInBounds, Array.getElem?_setIfInBounds]
  dsimp only
  constructor
  · rw [if_neg (by omega)]
    exact (h2 j hj).1
  · by_cases e : i = j
    · subst e
      rw [if_pos rfl, if_pos hz, if_pos rfl]
    · rw [if_neg (by omega), if_neg (fun h => e h.symm)]
      exact (h2 j hj).2
theorem RowO.congr {w : World} {g n m : Nat} {N R N' R' : Nat → Int} (k : RowO w g n N R) (hm : m ≤ n) (h1 : ∀ i, i < m → N i = N' i) (h2 : ∀ i, i < m → R i = R' i) : RowO w g m N' R' := by obtain ⟨cur, h, h3⟩ := k; exact ⟨cur, h, fun i hi => by rw [← h1 i hi, ← h2 i hi]; exact h3 i (by omega)⟩
theorem WordO.congr {w : World} {g n m : Nat} {S S' : Nat → Int} (k : WordO w g n S) (hm : m ≤ n) (h1 : ∀ i, i < m → S i = S' i) : WordO w g m S' := by obtain ⟨cur, h, h3⟩ := k; exact ⟨cur, h, fun i hi => by rw [← h1 i hi]; exact h3 i (by omega)⟩
theorem rowO {w : World} {B n : Nat} {v : Value} {news : List Value} {N R : Nat → Int} (h : w.ownsRow B 102 22 v n news) (hn : 0 < n) (hx : ∀ i, i < n → news[i * 22 + 1]? = some (.int .u64 (N i)) ∧ news[i * 22 + 10]? = some (.int .u64 (R i)) ∧ W64 (N i) ∧ W64 (R i)) :
    ∃ g c, v = .slice (some ⟨g, 0, none⟩) n c ∧ B ≤ g ∧ n ≤ c ∧ c ≤ 9223372036854775807 ∧ RowO w g n N R := by
  obtain ⟨hlen, ⟨_, h2⟩ | ⟨g, c, cur, rfl, hg, hheap, hc, hm, hcs, htake⟩⟩ := h
  · omega
  · unfold maxLen at hm
    refine ⟨g, c, rfl, hg, hc, hm, cur, hheap, fun i hi => ?_⟩
    obtain ⟨h1, h2, _⟩ := hx i hi
    rw [← htake, List.getElem?_take, if_pos (by omega)] at h1 h2
    exact ⟨by simpa using h1, by simpa using h2⟩
theorem wordO {w : World} {B n : Nat} {v : Value} {news : List Value} {S : Nat → Int} (h : w.ownsRow B 22 1 v n news) (hn : 0 < n) (hx : ∀ i, i < n → news[i]? = some (.int .u64 (S i)) ∧ W64 (S i)) :
    ∃ g c, v = .slice (some ⟨g, 0, none⟩) n c ∧ B ≤ g ∧ n ≤ c ∧ c ≤ 9223372036854775807 ∧ WordO w g n S := by
  obtain ⟨hlen, ⟨_, h2⟩ | ⟨g, c, cur, rfl, hg, hheap, hc, hm, hcs, htake⟩⟩ := h
  · omega
  · unfold maxLen at hm
    refine ⟨g, c, rfl, hg, hc, hm, cur, hheap, fun i hi => ?_⟩
    obtain ⟨h1, _⟩ := hx i hi
    rw [← htake, List.getElem?_take, if_pos (by omega)] at h1
    simpa using h1
theorem ownForm {w : World} {B n s : Nat} {e : TypeId} {v : Value} {xs : List Value} (h : w.ownsRow B e s v n xs) : (v = .slice none 0 0 ∧ n = 0) ∨ ∃ g c, v = .slice (some ⟨g, 0, none⟩) n c ∧ (n : Int) ≤ (c : Int) ∧ (c : Int) ≤ 9223372036854775807 := by
  obtain ⟨_, h | ⟨g, c, cur, rfl, _, _, hc, hm, _⟩⟩ := h
  · exact .inl h
  · unfold maxLen at hm
    exact .inr ⟨g, c, rfl, by omega, by omega⟩
/-- the first m changed -/
def nowN (N : Nat → Int) (m : Nat) : Nat → Int := fun j => if j < m then (j : Int) * (N j % 5000) else N j
def nowR (R : Nat → Int) (m : Nat) : Nat → Int := fun j => if j < m then R j % 1000000 else R j
def nowS (S : Nat → Int) (m : Nat) : Nat → Int := fun j => if j < m then S j % 3000 else S j
theorem nowN_at (N : Nat → Int) (m : Nat) : nowN N m m = N m := if_neg (Nat.lt_irrefl m)
theorem nowR_at (N : Nat → Int) (m : Nat) : nowR N m m = N m := if_neg (Nat.lt_irrefl m)
theorem nowS_at (N : Nat → Int) (m : Nat) : nowS N m m = N m := if_neg (Nat.lt_irrefl m)
theorem now_next (F : Nat → Int) (N : Nat → Int) (m j : Nat) : (if j = m then F m else if j < m then F j else N j) = if j < m + 1 then F j else N j := by
  by_cases h : j = m
  · subst h
    rw [if_pos rfl, if_pos (by omega)]
  · rw [if_neg h]
    by_cases h2 : j < m
    · rw [if_pos h2, if_pos (by omega)]
    · rw [if_neg h2, if_neg (by omega)]
theorem nowN_next (N : Nat → Int) (m j : Nat) : (if j = m then (m : Int) * (N m % 5000) else nowN N m j) = nowN N (m + 1) j := now_next (fun j => (j : Int) * (N j % 5000)) N m j
theorem nowR_next (N : Nat → Int) (m j : Nat) : (if j = m then N m % 1000000 else nowR N m j) = nowR N (m + 1) j := now_next (fun j => N j % 1000000) N m j
theorem nowS_next (N : Nat → Int) (m j : Nat) : (if j = m then N m % 3000 else nowS N m j) = nowS N (m + 1) j := now_next (fun j => N j % 3000) N m j
theorem nowN_W (N : Nat → Int) (m i : Nat) (hi : i ≤ 60) (h : W64 (N i)) : W64 (nowN N m i) := by
  unfold nowN
  split
  · have h1 := h.1
    have a0 : 0 ≤ N i % 5000 := by omega
    have a1 : N i % 5000 ≤ 5000 := by omega
    have b0 := Int.mul_nonneg (show (0 : Int) ≤ (i : Int) by omega) a0
    have b1 := Int.mul_le_mul (show (i : Int) ≤ 60 by omega) a1 a0 (by omega)
    unfold W64
    omega
  · exact h
theorem nowR_W (N : Nat → Int) (m i : Nat) (h : W64 (N i)) : W64 (nowR N m i) := by
  unfold nowR
  split
  · have h1 := h.1
    unfold W64
    omega
  · exact h
theorem nowS_W (N : Nat → Int) (m i : Nat) (h : W64 (N i)) : W64 (nowS N m i) := by
  unfold nowS
  split
  · have h1 := h.1
    unfold W64
    omega
  · exact h

set_option maxHeartbeats 8000000 in
theorem walkPlain (x : Option Addr) (n c : Nat) (N R : Nat → Int) (y : Option Addr) (k d : Nat) (S : Nat → Int) (b : Int) (w : World) (hr : RowsIn w x n c N R) (hs : WordsIn w y k d S) (hb : W64 b) :
    Calls Try.prog 13 #[.slice x n c, .slice y k d, .int .u64 b, .bool false] w fun e w' => e = .returned (.bool true) ∧ Below w.heap.size w w' := by
  obtain ⟨i5, hi5, hzz5, hs5, hbb5⟩ := info_parts (P := Try.prog) (e := 102) (z := (.agg #[.int .i64 0, .int .u64 0, .int .u64 0, .int .u64 0, .int .u64 0, .int .u64 0, .int .u64 0, .int .u64 0, .int .u64 0, .int .u64 0, .int .u64 0, .int .u64 0, .int .u64 0, .int .u64 0, .int .u64 0, .int .u64 0, .int .u64 0, .int .u64 0, .int .u64 0, .int .u64 0, .int .u64 0, .int .i64 0])) (size := 22) (bytes := 176) (by kernel_rfl)
  obtain ⟨i7, hi7, hzz7, hs7, hbb7⟩ := info_parts (P := Try.prog) (e := 22) (z := .int .u64 0) (size := 1) (bytes := 8) (by kernel_rfl)
  obtain ⟨nR, lR, oR, cR, aR⟩ := hr.news
  obtain ⟨nS, lS, oS, cS, aS⟩ := hs.news
  have hnc : (n : Int) ≤ (c : Int) := by have := hr.1; omega
  have hcm : (c : Int) ≤ 9223372036854775807 := by have := hr.2.1; omega
  have hkd : (k : Int) ≤ (d : Int) := by have := hs.1; omega
  have hdm : (d : Int) ≤ 9223372036854775807 := by have := hs.2.1; omega
  have HLR := Lib.hid lR
  have HOR := Lib.hid oR
  have HCR := Lib.hid cR
  have HAR := Lib.hid aR
  have HLS := Lib.hid lS
  have HOS := Lib.hid oS
  have HCS := Lib.hid cS
  have HAS := Lib.hid aS
  have HB := Lib.hid hb
  clear hr hs hb lR oR cR aR lS oS cS aS
  go_enter Try.func13, Try.ntmps13
  go_wp2_with fail
  ((with_reducible refine (aliveJ _).mono ?_); rintro e' w1 ⟨rfl, b1⟩)
  by_cases hc : 60 < n ∨ 60 < k
  · rcases Nat.lt_or_ge 60 n with h6 | h6
    · have d1 : (60 : Int) < (n : Int) := by omega
      clear hc
      go_wp2_with fail
      ((with_reducible refine (aliveJ _).mono ?_); rintro e' wB ⟨rfl, bB⟩)
      go_wp2_with fail
      go_ret
      exact ⟨rfl, b1.trans (bB.mono b1.size)⟩
    · have d1 : ¬ (60 : Int) < (n : Int) := by omega
      have d2 : (60 : Int) < (k : Int) := by omega
      clear hc
      go_wp2_with fail
      ((with_reducible refine (aliveJ _).mono ?_); rintro e' wB ⟨rfl, bB⟩)
      go_wp2_with fail
      go_ret
      exact ⟨rfl, b1.trans (bB.mono b1.size)⟩
  have d1 : ¬ (60 : Int) < (n : Int) := by omega
  have d2 : ¬ (60 : Int) < (k : Int) := by omega
  have n60 : n ≤ 60 := by omega
  have k60 : k ≤ 60 := by omega
  clear hc
  go_wp2_with (first | (at_builtin; refine wpList_append_any _ rfl (.const (.slice none 0 0)) (.tmp 26) 94 rfl w1.heap.size 102 i5 (.agg #[.int .i64 0, .int .u64 0, .int .u64 0, .int .u64 0, .int .u64 0, .int .u64 0, .int .u64 0, .int .u64 0, .int .u64 0, .int .u64 0, .int .u64 0, .int .u64 0, .int .u64 0, .int .u64 0, .int .u64 0, .int .u64 0, .int .u64 0, .int .u64 0, .int .u64 0, .int .u64 0, .int .u64 0, .int .i64 0]) 22 176 Try.underlying94 hi5 hzz5 hs5 hbb5 rfl (by decide) (.slice none 0 0) 0 [] rfl (World.ownsRow_nil _ _ _ _) x n c nR rfl HLR.out (HCR.out w1 b1) HOR.out (by simp [maxLen]; omega) (by omega) (Nat.le_refl _) ?_; intro v5 w5 own5 hgrow5 hat5; simp only [Nat.zero_add, List.nil_append] at own5) | (at_builtin; refine wpList_append_any _ rfl (.const (.slice none 0 0)) (.tmp 28) 95 rfl w5.heap.size 22 i7 (.int .u64 0) 1 8 Try.underlying95 hi7 hzz7 hs7 hbb7 rfl (by decide) (.slice none 0 0) 0 [] rfl (World.ownsRow_nil _ _ _ _) y k d nS rfl HLS.out (HCS.out w5 (b1.trans ((below_grown (Below.refl _ _) hgrow5 (Nat.le_refl _)).mono b1.size))) HOS.out (by simp [maxLen]; omega) (by omega) (Nat.le_refl _) ?_; intro v7 w7 own7 hgrow7 hat7; simp only [Nat.zero_add, List.nil_append] at own7))
  have b5 : Below w1.heap.size w1 w5 := below_grown (Below.refl _ _) hgrow5 (Nat.le_refl _)
  have c5 := b1.trans (b5.mono b1.size)
  have b7 : Below w5.heap.size w5 w7 := below_grown (Below.refl _ _) hgrow7 (Nat.le_refl _)
  have c7 := c5.trans (b7.mono c5.size)
  clear hgrow5 hat5 d1 d2
  have hlt5 := fun kk h => (own5.lt kk h).2
  have own5 := own_below own5 b7
  have hw1 := b1.size
  have hw5 := b5.size
  have hw7 := b7.size
  clear hgrow7 hat7 b1 b5 b7 c5 HLR HOR HCR HLS HOS HCS hi5 hzz5 hs5 hbb5 hi7 hzz7 hs7 hbb7
  by_cases hne : n = k
  · subst hne
    by_cases h0 : n = 0
    · subst h0
      obtain ⟨x5, c5, rfl⟩ := own_slice own5
      obtain ⟨x7, e7, rfl⟩ := own_slice own7
      go_wp2_with fail
      ((with_reducible refine (jPaced0 x5 x7 c5 e7 b HB.out _).mono ?_); rintro e' w8 ⟨rfl, g8⟩)
      have G9 : Gr w7 w8 := Gr.trans (by repeat (first | assumption | exact Gr.refl _ | apply Gr.drewN | apply Gr.drew | apply Gr.gw | apply Gr.alloc)) g8
      go_wp2_with fail
      ((with_reducible refine (qPaced0 x5 x7 c5 e7 b HB.out _).mono ?_); rintro e' w9 ⟨rfl, g9⟩)
      have G10 : Gr w7 w9 := Gr.trans (by exact G9) g9
      go_wp2_with fail
      go_ret
      exact ⟨rfl, c7.trans (G10.below.mono c7.size)⟩
    obtain ⟨g, cg, rfl, hg, hgc, _, RO⟩ := rowO own5 (by omega) HAR.out
    obtain ⟨h, ch, rfl, hh, hhc, _, WO⟩ := wordO own7 (by omega) HAS.out
    obtain ⟨B, hB⟩ := boolOf (pacedP N R S b n)
    have HBB := Lib.hid hB
    have HRO := Lib.hid RO.at
    have HWO := Lib.hid WO.at
    clear own5 own7 RO WO hB
    go_wp2_with fail
    ((with_reducible refine (jPacedSome g 0 cg h 0 ch n N R S b (by omega) HB.out (fun i hi => (HAR.out i hi).2.2.1) (fun i hi => (HAR.out i hi).2.2.2) (fun i hi => (HAS.out i hi).2) B HBB.out _ (HRO.out.below (show Gr w7 _ from (by repeat (first | assumption | exact Gr.refl _ | apply Gr.drewN | apply Gr.drew | apply Gr.gw | apply Gr.alloc))).below) (HWO.out.below (show Gr w7 _ from (by repeat (first | assumption | exact Gr.refl _ | apply Gr.drewN | apply Gr.drew | apply Gr.gw | apply Gr.alloc))).below)).mono ?_); rintro e' w8 ⟨rfl, g8⟩)
    have G9 : Gr w7 w8 := Gr.trans (by repeat (first | assumption | exact Gr.refl _ | apply Gr.drewN | apply Gr.drew | apply Gr.gw | apply Gr.alloc)) g8
    go_wp2_with fail
    ((with_reducible refine (qPacedSome g 0 cg h 0 ch n N R S b (by omega) HB.out (fun i hi => (HAR.out i hi).2.2.1) (fun i hi => (HAR.out i hi).2.2.2) (fun i hi => (HAS.out i hi).2) B HBB.out _ (HRO.out.below G9.below) (HWO.out.below G9.below)).mono ?_); rintro e' w9 ⟨rfl, g9⟩)
    have G10 : Gr w7 w9 := Gr.trans (by exact G9) g9
    go_wp2_with fail
    go_ret
    exact ⟨rfl, c7.trans (G10.below.mono c7.size)⟩
  · obtain ⟨x5, c5, rfl⟩ := own_slice own5
    obtain ⟨x7, e7, rfl⟩ := own_slice own7
    go_wp2_with fail
    ((with_reducible refine (jPacedLen x5 x7 n c5 k e7 b HB.out (by omega) (by omega) hne _).mono ?_); rintro e' w8 ⟨rfl, g8⟩)
    have G9 : Gr w7 w8 := Gr.trans (by repeat (first | assumption | exact Gr.refl _ | apply Gr.drewN | apply Gr.drew | apply Gr.gw | apply Gr.alloc)) g8
    go_wp2_with fail
    ((with_reducible refine (qPacedLen x5 x7 n c5 k e7 b HB.out (by omega) (by omega) hne _).mono ?_); rintro e' w9 ⟨rfl, g9⟩)
    have G10 : Gr w7 w9 := Gr.trans (by exact G9) g9
    go_wp2_with fail
    go_ret
    exact ⟨rfl, c7.trans (G10.below.mono c7.size)⟩


set_option maxHeartbeats 8000000 in
theorem walkSmall (x : Option Addr) (n c : Nat) (N R : Nat → Int) (y : Option Addr) (k d : Nat) (S : Nat → Int) (b : Int) (w : World) (hr : RowsIn w x n c N R) (hs : WordsIn w y k d S) (hb : W64 b) :
    Calls Try.prog 13 #[.slice x n c, .slice y k d, .int .u64 b, .bool true] w fun e w' => e = .returned (.bool true) ∧ Below w.heap.size w w' := by
  obtain ⟨i5, hi5, hzz5, hs5, hbb5⟩ := info_parts (P := Try.prog) (e := 102) (z := (.agg #[.int .i64 0, .int .u64 0, .int .u64 0, .int .u64 0, .int .u64 0, .int .u64 0, .int .u64 0, .int .u64 0, .int .u64 0, .int .u64 0, .int .u64 0, .int .u64 0, .int .u64 0, .int .u64 0, .int .u64 0, .int .u64 0, .int .u64 0, .int .u64 0, .int .u64 0, .int .u64 0, .int .u64 0, .int .i64 0])) (size := 22) (bytes := 176) (by kernel_rfl)
  obtain ⟨i7, hi7, hzz7, hs7, hbb7⟩ := info_parts (P := Try.prog) (e := 22) (z := .int .u64 0) (size := 1) (bytes := 8) (by kernel_rfl)
  obtain ⟨nR, lR, oR, cR, aR⟩ := hr.news
  obtain ⟨nS, lS, oS, cS, aS⟩ := hs.news
  have hnc : (n : Int) ≤ (c : Int) := by have := hr.1; omega
  have hcm : (c : Int) ≤ 9223372036854775807 := by have := hr.2.1; omega
  have hkd : (k : Int) ≤ (d : Int) := by have := hs.1; omega
  have hdm : (d : Int) ≤ 9223372036854775807 := by have := hs.2.1; omega
  have HLR := Lib.hid lR
  have HOR := Lib.hid oR
  have HCR := Lib.hid cR
  have HAR := Lib.hid aR
  have HLS := Lib.hid lS
  have HOS := Lib.hid oS
  have HCS := Lib.hid cS
  have HAS := Lib.hid aS
  have HB := Lib.hid hb
  clear hr hs hb lR oR cR aR lS oS cS aS
  go_enter Try.func13, Try.ntmps13
  go_wp2_with fail
  ((with_reducible refine (aliveJ _).mono ?_); rintro e' w1 ⟨rfl, b1⟩)
  by_cases hc : 60 < n ∨ 60 < k
  · rcases Nat.lt_or_ge 60 n with h6 | h6
    · have d1 : (60 : Int) < (n : Int) := by omega
      clear hc
      go_wp2_with fail
      ((with_reducible refine (aliveJ _).mono ?_); rintro e' wB ⟨rfl, bB⟩)
      go_wp2_with fail
      go_ret
      exact ⟨rfl, b1.trans (bB.mono b1.size)⟩
    · have d1 : ¬ (60 : Int) < (n : Int) := by omega
      have d2 : (60 : Int) < (k : Int) := by omega
      clear hc
      go_wp2_with fail
      ((with_reducible refine (aliveJ _).mono ?_); rintro e' wB ⟨rfl, bB⟩)
      go_wp2_with fail
      go_ret
      exact ⟨rfl, b1.trans (bB.mono b1.size)⟩
  have d1 : ¬ (60 : Int) < (n : Int) := by omega
  have d2 : ¬ (60 : Int) < (k : Int) := by omega
  have n60 : n ≤ 60 := by omega
  have k60 : k ≤ 60 := by omega
  clear hc
  go_wp2_with (first | (at_builtin; refine wpList_append_any _ rfl (.const (.slice none 0 0)) (.tmp 26) 94 rfl w1.heap.size 102 i5 (.agg #[.int .i64 0, .int .u64 0, .int .u64 0, .int .u64 0, .int .u64 0, .int .u64 0, .int .u64 0, .int .u64 0, .int .u64 0, .int .u64 0, .int .u64 0, .int .u64 0, .int .u64 0, .int .u64 0, .int .u64 0, .int .u64 0, .int .u64 0, .int .u64 0, .int .u64 0, .int .u64 0, .int .u64 0, .int .i64 0]) 22 176 Try.underlying94 hi5 hzz5 hs5 hbb5 rfl (by decide) (.slice none 0 0) 0 [] rfl (World.ownsRow_nil _ _ _ _) x n c nR rfl HLR.out (HCR.out w1 b1) HOR.out (by simp [maxLen]; omega) (by omega) (Nat.le_refl _) ?_; intro v5 w5 own5 hgrow5 hat5; simp only [Nat.zero_add, List.nil_append] at own5) | (at_builtin; refine wpList_append_any _ rfl (.const (.slice none 0 0)) (.tmp 28) 95 rfl w5.heap.size 22 i7 (.int .u64 0) 1 8 Try.underlying95 hi7 hzz7 hs7 hbb7 rfl (by decide) (.slice none 0 0) 0 [] rfl (World.ownsRow_nil _ _ _ _) y k d nS rfl HLS.out (HCS.out w5 (b1.trans ((below_grown (Below.refl _ _) hgrow5 (Nat.le_refl _)).mono b1.size))) HOS.out (by simp [maxLen]; omega) (by omega) (Nat.le_refl _) ?_; intro v7 w7 own7 hgrow7 hat7; simp only [Nat.zero_add, List.nil_append] at own7))
  have b5 : Below w1.heap.size w1 w5 := below_grown (Below.refl _ _) hgrow5 (Nat.le_refl _)
  have c5 := b1.trans (b5.mono b1.size)
  have b7 : Below w5.heap.size w5 w7 := below_grown (Below.refl _ _) hgrow7 (Nat.le_refl _)
  have c7 := c5.trans (b7.mono c5.size)
  clear hgrow5 hat5 d1 d2
  have hlt5 := fun kk h => (own5.lt kk h).2
  have own5 := own_below own5 b7
  have hw1 := b1.size
  have hw5 := b5.size
  have hw7 := b7.size
  clear hgrow7 hat7 b1 b5 b7 c5 HLR HOR HCR HLS HOS HCS hi5 hzz5 hs5 hbb5 hi7 hzz7 hs7 hbb7
  have hb0 := HB.out.1
  have hb1 : b.tmod 3000 = b % 3000 := Int.tmod_eq_emod_of_nonneg hb0
  have HB3 : Hid (W64 (b % 3000)) := by show W64 _; unfold W64; omega
  clear hb0
  rcases Nat.lt_or_ge k n with hlt | hlt
  · have e1 : k < n := hlt
    have e2 : (k : Int) < (n : Int) := by omega
    by_cases h0 : k = 0
    · rcases ownForm own5 with ⟨rfl, z5⟩ | ⟨g, cg, rfl, hgc, hgm⟩ <;> rcases ownForm own7 with ⟨rfl, z7⟩ | ⟨h, ch, rfl, hhc, hhm⟩
      all_goals
        clear own5 own7 HAR HAS hlt5
        try (exfalso; omega)
      all_goals
        try subst z5
        try subst z7
        try subst h0
        go_simp
        go_wp2_with fail
        go_quiet (fail)
        go_wp2_with fail
        refine wp_loop_rounds 1 ?_; rw [rounds_succ]
        go_wp2_with fail
        have H3 := HB3.out
        ((with_reducible refine (jPaced0 _ _ _ _ (b % 3000) H3 _).mono ?_); rintro e' w8 ⟨rfl, g8⟩)
        have G9 : Gr w7 w8 := Gr.trans (by repeat (first | assumption | exact Gr.refl _ | apply Gr.drewN | apply Gr.drew | apply Gr.gw | apply Gr.alloc)) g8
        go_wp2_with fail
        ((with_reducible refine (qPaced0 _ _ _ _ (b % 3000) H3 _).mono ?_); rintro e' w9 ⟨rfl, g9⟩)
        have G10 : Gr w7 w9 := Gr.trans (by exact G9) g9
        go_wp2_with fail
        go_ret
        exact ⟨rfl, c7.trans (G10.below.mono c7.size)⟩
    obtain ⟨g, cg, rfl, hg, hgc, hgm, RO⟩ := rowO own5 (by omega) HAR.out
    obtain ⟨h, ch, rfl, hh, hhc, hhm, WO⟩ := wordO own7 (by omega) HAS.out
    have hgh : h ≠ g := by have := hh; have := hlt5 g rfl; omega
    have hqc : (k : Int) ≤ (cg : Int) := by omega
    have hqh : (k : Int) ≤ (ch : Int) := by omega
    have q0 : (0 : Int) ≤ (k : Int) := by omega
    have HN := Lib.hid (fun i hi => (HAR.out i hi).2.2.1)
    have HR := Lib.hid (fun i hi => (HAR.out i hi).2.2.2)
    have HS := Lib.hid (fun i hi => (HAS.out i hi).2)
    have HRO := Lib.hid RO
    have HWO := Lib.hid WO
    have g1 : w1.heap.size ≤ g := hg
    have h1 : w1.heap.size ≤ h := by omega
    clear own5 own7 RO WO hg hh HAR HAS hgc hhc hlt5
    go_simp
    go_wp2_with fail
    go_quiet (fail)
    obtain ⟨w8, hw8⟩ : ∃ w8, w8 = w7.drewN nq := ⟨_, rfl⟩
    have b8 : Below w7.heap.size w7 w8 := by rw [hw8]; exact Gr.below (Gr.drewN (Gr.refl _) _)
    rw [← hw8]
    have HRO := Lib.hid (HRO.out.below HRO.out.lt b8)
    have HWO := Lib.hid (HWO.out.below HWO.out.lt b8)
    have c8 := c7.trans (b8.mono c7.size)
    clear hw8
    go_wp2_with fail
    go_loopw [44] (fun i wr => ∃ m : Nat, i = .int .i64 (m : Int) ∧ m ≤ k ∧ RowO wr g n (nowN N m) (nowR R m) ∧ WordO wr h k (nowS S m) ∧ Below w.heap.size w wr) (fun i _ => (k - intOf i).toNat)
    case atStart => exact ⟨0, by first | rfl | simp, by omega, HRO.out.congr (Nat.le_refl _) (fun i _ => rfl) (fun i _ => rfl), HWO.out.congr (Nat.le_refl _) (fun i _ => rfl), c8⟩
    case round =>
      obtain ⟨m, rfl, hm, RO, WO, hbel⟩ := hrel
      have HRO := Lib.hid RO
      have HWO := Lib.hid WO
      have HBEL := Lib.hid hbel
      have lg := RO.lt
      have lh := WO.lt
      clear RO WO hbel
      have m0 : (0 : Int) ≤ (m : Int) := by omega
      by_cases hlt' : m < k
      · have hltI : (m : Int) < (k : Int) := by omega
        have hmn : m < n := by omega
        have hmk : m < k := by omega
        obtain ⟨p1, p2⟩ := HRO.out.at.2 m hmn
        have p3 := HWO.out.at.2 m hmk
        rw [nowN_at, Nat.zero_add] at p1
        rw [nowR_at, Nat.zero_add] at p2
        rw [nowS_at, Nat.zero_add] at p3
        have z1 := HWO.out.fz m
        have z2 := HRO.out.fz (m * 22 + 1)
        have z3 := HRO.out.fz (m * 22 + 10)
        have wn := HN.out m hmn
        have wr' := HR.out m hmn
        have ws := HS.out m hmk
        have HNN := Lib.hid (nowN_next N m)
        have HNR := Lib.hid (nowR_next R m)
        have HNS := Lib.hid (nowS_next S m)
        obtain ⟨a, ha⟩ : ∃ a, N m = a := ⟨_, rfl⟩
        obtain ⟨e, he⟩ : ∃ a, R m = a := ⟨_, rfl⟩
        obtain ⟨f, hf⟩ : ∃ a, S m = a := ⟨_, rfl⟩
        rw [ha] at p1 wn HNN
        rw [he] at p2 wr' HNR
        rw [hf] at p3 ws HNS
        unfold W64 at wn wr' ws
        obtain ⟨a', ha'⟩ : ∃ x, a % 5000 = x := ⟨_, rfl⟩
        obtain ⟨e', he'⟩ : ∃ x, e % 1000000 = x := ⟨_, rfl⟩
        obtain ⟨f', hf'⟩ : ∃ x, f % 3000 = x := ⟨_, rfl⟩
        have t1 : a.tmod 5000 = a' := by rw [Int.tmod_eq_emod_of_nonneg wn.1]; exact ha'
        have t2 : e.tmod 1000000 = e' := by rw [Int.tmod_eq_emod_of_nonneg wr'.1]; exact he'
        have t3 : f.tmod 3000 = f' := by rw [Int.tmod_eq_emod_of_nonneg ws.1]; exact hf'
        have u1 : 0 ≤ a' ∧ a' < 5000 := by omega
        obtain ⟨b', hb'⟩ : ∃ x, (m : Int) * a' = x := ⟨_, rfl⟩
        have u2 : 0 ≤ b' ∧ b' ≤ 60 * 5000 := by
          rw [← hb']
          exact ⟨Int.mul_nonneg m0 u1.1, Int.mul_le_mul (by omega) (by omega) u1.1 (by omega)⟩
        have t4 : IntKind.u64.wrap ((m : Int)) = (m : Int) := by rw [IntKind.wrap_u64]; omega
        have t5 : IntKind.u64.wrap b' = b' := by rw [IntKind.wrap_u64]; omega
        rw [ha', hb'] at HNN
        rw [he'] at HNR
        rw [hf'] at HNS
        clear ha he hf ha' he' hf' wn wr' ws u1 u2
        go_wp2_with fail
        go_roundw
        case rel => exact ⟨m + 1, by congr 1, by omega, (((HRO.out.far hgh _).setN b').setR e').congr (Nat.le_refl _) (fun j _ => HNN.out j) (fun j _ => HNR.out j), (((HWO.out.set f').far (fun e => hgh e.symm) _).far (fun e => hgh e.symm) _).congr (Nat.le_refl _) (fun j _ => HNS.out j), ((HBEL.out.setCell (by simp; omega) _).setCell (by simp; omega) _).setCell (by simp; omega) _⟩
        case measure => simp only [intOf]; omega
      · have hltI : ¬ (m : Int) < (k : Int) := by omega
        have hdd : decide ((m : Int) < (k : Int)) = false := decide_eq_false hltI
        obtain ⟨B, hB⟩ := boolOf (pacedP (nowN N m) (nowR R m) (nowS S m) (b % 3000) k)
        have HBB := Lib.hid hB
        have RA : Hid (RowsAt wr g 0 k (nowN N m) (nowR R m)) := (HRO.out.congr (by omega) (fun _ _ => rfl) (fun _ _ => rfl)).at
        have WA : Hid (WordsAt wr h 0 k (nowS S m)) := (HWO.out.congr (by omega) (fun _ _ => rfl)).at
        have WN : Hid (∀ i, i < k → W64 (nowN N m i)) := fun i hi => nowN_W N m i (by omega) (HN.out i (by omega))
        have WR : Hid (∀ i, i < k → W64 (nowR R m i)) := fun i hi => nowR_W R m i (HR.out i (by omega))
        have WS : Hid (∀ i, i < k → W64 (nowS S m i)) := fun i hi => nowS_W S m i (HS.out i (by omega))
        clear hB
        go_wp2_with fail
        have H3 := HB3.out
        ((with_reducible refine (jPacedSome g 0 cg h 0 ch k (nowN N m) (nowR R m) (nowS S m) (b % 3000) (by omega) H3 WN.out WR.out WS.out B HBB.out _ (RA.out.below (show Gr wr _ from (by repeat (first | assumption | exact Gr.refl _ | apply Gr.drewN | apply Gr.drew | apply Gr.gw | apply Gr.alloc))).below) (WA.out.below (show Gr wr _ from (by repeat (first | assumption | exact Gr.refl _ | apply Gr.drewN | apply Gr.drew | apply Gr.gw | apply Gr.alloc))).below)).mono ?_); rintro e' w8 ⟨rfl, g8⟩)
        have G9 : Gr wr w8 := Gr.trans (by repeat (first | assumption | exact Gr.refl _ | apply Gr.drewN | apply Gr.drew | apply Gr.gw | apply Gr.alloc)) g8
        go_wp2_with fail
        ((with_reducible refine (qPacedSome g 0 cg h 0 ch k (nowN N m) (nowR R m) (nowS S m) (b % 3000) (by omega) H3 WN.out WR.out WS.out B HBB.out _ (RA.out.below G9.below) (WA.out.below G9.below)).mono ?_); rintro e' w9 ⟨rfl, g9⟩)
        have G10 : Gr wr w9 := Gr.trans (by exact G9) g9
        go_wp2_with fail
        go_ret
        exact ⟨rfl, HBEL.out.trans (G10.below.mono HBEL.out.size)⟩
  · have e1 : ¬ k < n := by omega
    have e2 : ¬ (k : Int) < (n : Int) := by omega
    by_cases h0 : n = 0
    · rcases ownForm own5 with ⟨rfl, z5⟩ | ⟨g, cg, rfl, hgc, hgm⟩ <;> rcases ownForm own7 with ⟨rfl, z7⟩ | ⟨h, ch, rfl, hhc, hhm⟩
      all_goals
        clear own5 own7 HAR HAS hlt5
        try (exfalso; omega)
      all_goals
        try subst z5
        try subst z7
        try subst h0
        go_simp
        go_wp2_with fail
        go_quiet (fail)
        go_wp2_with fail
        refine wp_loop_rounds 1 ?_; rw [rounds_succ]
        go_wp2_with fail
        have H3 := HB3.out
        ((with_reducible refine (jPaced0 _ _ _ _ (b % 3000) H3 _).mono ?_); rintro e' w8 ⟨rfl, g8⟩)
        have G9 : Gr w7 w8 := Gr.trans (by repeat (first | assumption | exact Gr.refl _ | apply Gr.drewN | apply Gr.drew | apply Gr.gw | apply Gr.alloc)) g8
        go_wp2_with fail
        ((with_reducible refine (qPaced0 _ _ _ _ (b % 3000) H3 _).mono ?_); rintro e' w9 ⟨rfl, g9⟩)
        have G10 : Gr w7 w9 := Gr.trans (by exact G9) g9
        go_wp2_with fail
        go_ret
        exact ⟨rfl, c7.trans (G10.below.mono c7.size)⟩
    obtain ⟨g, cg, rfl, hg, hgc, hgm, RO⟩ := rowO own5 (by omega) HAR.out
    obtain ⟨h, ch, rfl, hh, hhc, hhm, WO⟩ := wordO own7 (by omega) HAS.out
    have hgh : h ≠ g := by have := hh; have := hlt5 g rfl; omega
    have hqc : (n : Int) ≤ (cg : Int) := by omega
    have hqh : (n : Int) ≤ (ch : Int) := by omega
    have q0 : (0 : Int) ≤ (n : Int) := by omega
    have HN := Lib.hid (fun i hi => (HAR.out i hi).2.2.1)
    have HR := Lib.hid (fun i hi => (HAR.out i hi).2.2.2)
    have HS := Lib.hid (fun i hi => (HAS.out i hi).2)
    have HRO := Lib.hid RO
    have HWO := Lib.hid WO
    have g1 : w1.heap.size ≤ g := hg
    have h1 : w1.heap.size ≤ h := by omega
    clear own5 own7 RO WO hg hh HAR HAS hgc hhc hlt5
    go_simp
    go_wp2_with fail
    go_quiet (fail)
    obtain ⟨w8, hw8⟩ : ∃ w8, w8 = w7.drewN nq := ⟨_, rfl⟩
    have b8 : Below w7.heap.size w7 w8 := by rw [hw8]; exact Gr.below (Gr.drewN (Gr.refl _) _)
    rw [← hw8]
    have HRO := Lib.hid (HRO.out.below HRO.out.lt b8)
    have HWO := Lib.hid (HWO.out.below HWO.out.lt b8)
    have c8 := c7.trans (b8.mono c7.size)
    clear hw8
    go_wp2_with fail
    go_loopw [44] (fun i wr => ∃ m : Nat, i = .int .i64 (m : Int) ∧ m ≤ n ∧ RowO wr g n (nowN N m) (nowR R m) ∧ WordO wr h k (nowS S m) ∧ Below w.heap.size w wr) (fun i _ => (n - intOf i).toNat)
    case atStart => exact ⟨0, by first | rfl | simp, by omega, HRO.out.congr (Nat.le_refl _) (fun i _ => rfl) (fun i _ => rfl), HWO.out.congr (Nat.le_refl _) (fun i _ => rfl), c8⟩
    case round =>
      obtain ⟨m, rfl, hm, RO, WO, hbel⟩ := hrel
      have HRO := Lib.hid RO
      have HWO := Lib.hid WO
      have HBEL := Lib.hid hbel
      have lg := RO.lt
      have lh := WO.lt
      clear RO WO hbel
      have m0 : (0 : Int) ≤ (m : Int) := by omega
      by_cases hlt' : m < n
      · have hltI : (m : Int) < (n : Int) := by omega
        have hmn : m < n := by omega
        have hmk : m < k := by omega
        obtain ⟨p1, p2⟩ := HRO.out.at.2 m hmn
        have p3 := HWO.out.at.2 m hmk
        rw [nowN_at, Nat.zero_add] at p1
        rw [nowR_at, Nat.zero_add] at p2
        rw [nowS_at, Nat.zero_add] at p3
        have z1 := HWO.out.fz m
        have z2 := HRO.out.fz (m * 22 + 1)
        have z3 := HRO.out.fz (m * 22 + 10)
        have wn := HN.out m hmn
        have wr' := HR.out m hmn
        have ws := HS.out m hmk
        have HNN := Lib.hid (nowN_next N m)
        have HNR := Lib.hid (nowR_next R m)
        have HNS := Lib.hid (nowS_next S m)
        obtain ⟨a, ha⟩ : ∃ a, N m = a := ⟨_, rfl⟩
        obtain ⟨e, he⟩ : ∃ a, R m = a := ⟨_, rfl⟩
        obtain ⟨f, hf⟩ : ∃ a, S m = a := ⟨_, rfl⟩
        rw [ha] at p1 wn HNN
        rw [he] at p2 wr' HNR
        rw [hf] at p3 ws HNS
        unfold W64 at wn wr' ws
        obtain ⟨a', ha'⟩ : ∃ x, a % 5000 = x := ⟨_, rfl⟩
        obtain ⟨e', he'⟩ : ∃ x, e % 1000000 = x := ⟨_, rfl⟩
        obtain ⟨f', hf'⟩ : ∃ x, f % 3000 = x := ⟨_, rfl⟩
        have t1 : a.tmod 5000 = a' := by rw [Int.tmod_eq_emod_of_nonneg wn.1]; exact ha'
        have t2 : e.tmod 1000000 = e' := by rw [Int.tmod_eq_emod_of_nonneg wr'.1]; exact he'
        have t3 : f.tmod 3000 = f' := by rw [Int.tmod_eq_emod_of_nonneg ws.1]; exact hf'
        have u1 : 0 ≤ a' ∧ a' < 5000 := by omega
        obtain ⟨b', hb'⟩ : ∃ x, (m : Int) * a' = x := ⟨_, rfl⟩
        have u2 : 0 ≤ b' ∧ b' ≤ 60 * 5000 := by
          rw [← hb']
          exact ⟨Int.mul_nonneg m0 u1.1, Int.mul_le_mul (by omega) (by omega) u1.1 (by omega)⟩
        have t4 : IntKind.u64.wrap ((m : Int)) = (m : Int) := by rw [IntKind.wrap_u64]; omega
        have t5 : IntKind.u64.wrap b' = b' := by rw [IntKind.wrap_u64]; omega
        rw [ha', hb'] at HNN
        rw [he'] at HNR
        rw [hf'] at HNS
        clear ha he hf ha' he' hf' wn wr' ws u1 u2
        go_wp2_with fail
        go_roundw
        case rel => exact ⟨m + 1, by congr 1, by omega, (((HRO.out.far hgh _).setN b').setR e').congr (Nat.le_refl _) (fun j _ => HNN.out j) (fun j _ => HNR.out j), (((HWO.out.set f').far (fun e => hgh e.symm) _).far (fun e => hgh e.symm) _).congr (Nat.le_refl _) (fun j _ => HNS.out j), ((HBEL.out.setCell (by simp; omega) _).setCell (by simp; omega) _).setCell (by simp; omega) _⟩
        case measure => simp only [intOf]; omega
      · have hltI : ¬ (m : Int) < (n : Int) := by omega
        have hdd : decide ((m : Int) < (n : Int)) = false := decide_eq_false hltI
        obtain ⟨B, hB⟩ := boolOf (pacedP (nowN N m) (nowR R m) (nowS S m) (b % 3000) n)
        have HBB := Lib.hid hB
        have RA : Hid (RowsAt wr g 0 n (nowN N m) (nowR R m)) := (HRO.out.congr (by omega) (fun _ _ => rfl) (fun _ _ => rfl)).at
        have WA : Hid (WordsAt wr h 0 n (nowS S m)) := (HWO.out.congr (by omega) (fun _ _ => rfl)).at
        have WN : Hid (∀ i, i < n → W64 (nowN N m i)) := fun i hi => nowN_W N m i (by omega) (HN.out i (by omega))
        have WR : Hid (∀ i, i < n → W64 (nowR R m i)) := fun i hi => nowR_W R m i (HR.out i (by omega))
        have WS : Hid (∀ i, i < n → W64 (nowS S m i)) := fun i hi => nowS_W S m i (HS.out i (by omega))
        clear hB
        go_wp2_with fail
        have H3 := HB3.out
        ((with_reducible refine (jPacedSome g 0 cg h 0 ch n (nowN N m) (nowR R m) (nowS S m) (b % 3000) (by omega) H3 WN.out WR.out WS.out B HBB.out _ (RA.out.below (show Gr wr _ from (by repeat (first | assumption | exact Gr.refl _ | apply Gr.drewN | apply Gr.drew | apply Gr.gw | apply Gr.alloc))).below) (WA.out.below (show Gr wr _ from (by repeat (first | assumption | exact Gr.refl _ | apply Gr.drewN | apply Gr.drew | apply Gr.gw | apply Gr.alloc))).below)).mono ?_); rintro e' w8 ⟨rfl, g8⟩)
        have G9 : Gr wr w8 := Gr.trans (by repeat (first | assumption | exact Gr.refl _ | apply Gr.drewN | apply Gr.drew | apply Gr.gw | apply Gr.alloc)) g8
        go_wp2_with fail
        ((with_reducible refine (qPacedSome g 0 cg h 0 ch n (nowN N m) (nowR R m) (nowS S m) (b % 3000) (by omega) H3 WN.out WR.out WS.out B HBB.out _ (RA.out.below G9.below) (WA.out.below G9.below)).mono ?_); rintro e' w9 ⟨rfl, g9⟩)
        have G10 : Gr wr w9 := Gr.trans (by exact G9) g9
        go_wp2_with fail
        go_ret
        exact ⟨rfl, HBEL.out.trans (G10.below.mono HBEL.out.size)⟩

theorem walk (a0 : Option Addr) (len0 cap0 : Nat) (a1 : Option Addr) (len1 cap1 : Nat) (z1 : List Int) (b : Int) (small : Bool) (w : World) (w0 : IsRowsF w a0 len0 cap0 22 [some .i64, some .u64, some .u64, some .u64, some .u64, some .u64, some .u64, some .u64, some .u64, some .u64, some .u64, some .u64, some .u64, some .u64, some .u64, some .u64, some .u64, some .u64, some .u64, some .u64, some .u64, some .i64]) (w1 : IsRow .u64 w a1 len1 cap1 z1) (w2 : W64 b) :
    Calls Try.prog 13 #[.slice a0 len0 cap0, .slice a1 len1 cap1, .int .u64 b, .bool small] w fun e w' => e = .returned (.bool true) ∧ Below w.heap.size w w' := by
  obtain ⟨N, R, hr⟩ := rowsIn w0
  cases small
  · exact walkPlain a0 len0 cap0 N R a1 len1 cap1 _ b w hr (wordsIn w1) w2
  · exact walkSmall a0 len0 cap0 N R a1 len1 cap1 _ b w hr (wordsIn w1) w2

/-! ### the row's step -/
set_option maxRecDepth 100000 in
theorem lifted (os : Os) (started : os.Started) (H : Type) (enc : TypeId × Value → H) :
    ReturnsInHanded {} Try.checked os 13 .any (Rows.judgePacesSpec.pre6 enc Try.prog Try.f13 Rows.judgePacesRow.domain false) (Rows.judgePacesSpec.post enc Try.prog Try.f13 false true false false) := by
  refine returnsInHanded_of_change (C := Try.checked) own started (by kernel_rfl) Try.func13
    (ChangeSpec.witness6 (enc := enc) (C := Try.checked) false ⟨#[], #[.slice none 0 0, .slice none 0 0, .int .u64 0, .bool false], []⟩ 8 (by kernel_rfl) (by kernel_rfl) (by kernel_rfl) (by kernel_rfl)) ?_
  intro W base args ds gs before hval0 hW hcnd _
  have hval : ∀ (j : Nat) t v, Try.f13.params[j]? = some t → args[j]? = some v → Value.okWide Try.prog W .any base t v := hval0
  have hW' := hW
  obtain ⟨p, q, hA0, hV, rfl, hfz, hnd⟩ := hW
  have hA : DataW.TrodAll enc Try.prog W 0 (fun _ => true) true Try.f13.params.toList args.toList ds p := hA0
  rw [Try.params13] at hA hval
  obtain ⟨v0, vs0, d0, ds0, p0, q0, hargs, rfl, rfl, h0, r0⟩ := trodAll_cons hA
  obtain ⟨v1, vs1, d1, ds1, p1, q1, rfl, rfl, rfl, h1, r1⟩ := trodAll_cons r0
  obtain ⟨v2, vs2, d2, ds2, p2, q2, rfl, rfl, rfl, h2, r2⟩ := trodAll_cons r1
  obtain ⟨v3, vs3, d3, ds3, p3, q3, rfl, rfl, rfl, h3, r3⟩ := trodAll_cons r2
  obtain ⟨rfl, rfl, rfl⟩ := trodAll_nil r3
  obtain rfl : args = #[v0, v1, v2, v3] := by cases args; simp_all
  obtain ⟨rfl, rfl⟩ := trodVars_none hV
  obtain ⟨a0, len0, cap0, rfl⟩ := okWide_slice Try.underlying94 (hval 0 94 v0 rfl rfl)
  have k0 := h0
  have lt0 : ∀ x ∈ p0, x.block < W.heap.size := by obtain ⟨m, hm⟩ := k0; exact DataW.trod_lt m _ _ _ hm
  have w0 : IsRowsF W a0 len0 cap0 22 [some .i64, some .u64, some .u64, some .u64, some .u64, some .u64, some .u64, some .u64, some .u64, some .u64, some .u64, some .u64, some .u64, some .u64, some .u64, some .u64, some .u64, some .u64, some .u64, some .u64, some .u64, some .i64] := by
    obtain ⟨fuel, hf⟩ := h0
    have h := rows_of_trod [some .i64, some .u64, some .u64, some .u64, some .u64, some .u64, some .u64, some .u64, some .u64, some .u64, some .u64, some .u64, some .u64, some .u64, some .u64, some .u64, some .u64, some .u64, some .u64, some .u64, some .u64, some .i64] Try.underlying94 (by simpa [Value.cells] using hf) (fun m cs y hy => fits_of_trod 8 102 _ m _ _ (by kernel_rfl) hy)
    rwa [show Try.prog.cellsOf 102 = 22 from by kernel_rfl] at h
  obtain ⟨a1, len1, cap1, rfl⟩ := okWide_slice Try.underlying95 (hval 1 95 v1 rfl rfl)
  have k1 := h1
  have lt1 : ∀ x ∈ p1, x.block < W.heap.size := by obtain ⟨m, hm⟩ := k1; exact DataW.trod_lt m _ _ _ hm
  obtain ⟨z1, w1⟩ : ∃ zs, IsRow .u64 W a1 len1 cap1 zs := by
    obtain ⟨fuel, hf⟩ := h1
    rcases open_ints Try.underlying95 Try.underlying22 (by kernel_rfl) hf with ⟨hcs, _⟩ | ⟨x, l, c, zs, hcs, _, hl, hm, hz, _, hcell, hwz⟩
    · simp [Value.cells] at hcs
      obtain ⟨rfl, rfl, rfl⟩ := hcs
      exact ⟨[], .inl ⟨rfl, rfl, rfl, rfl⟩⟩
    · simp [Value.cells] at hcs
      obtain ⟨rfl, rfl, rfl⟩ := hcs
      exact ⟨zs, .inr ⟨_, rfl, hl, hm, by simpa using hz, hcell, hwz⟩⟩
  obtain ⟨a2, rfl, rfl, rfl, w2⟩ := open_int Try.underlying22 (hval 2 22 v2 rfl rfl) h2
  obtain ⟨a3, rfl, rfl, rfl⟩ := open_bool Try.underlying4 (hval 3 4 v3 rfl rfl) h3
  clear hA0 hval0
  refine (walk a0 len0 cap0 a1 len1 cap1 z1 a2 a3 W w0 w1 (wfU64 w2)).mono fun e W' ⟨he, bel⟩ => ?_
  subst he
  exact ⟨_, rfl, _, _, _, [], _, [], hW', trodAll_mk1 (shut_bool Try.underlying4 _), (trodAll_cons_mk (Below.trod laidOut (by kernel_rfl) (of_decide_eq_true (by kernel_rfl)) k0 bel lt0) (trodAll_cons_mk (Below.trod laidOut (by kernel_rfl) (of_decide_eq_true (by kernel_rfl)) k1 bel lt1) (trodAll_cons_mk (shut_int Try.underlying22 w2) (trodAll_cons_mk (shut_bool Try.underlying4 _) trodAll_mk0)))), rfl, bel.frame _, fun h => by cases h⟩

theorem over : Rows.judgePacesRow.holds Try.pinned (OpenSpec.ofChange Rows.judgePacesSpec) :=
  OpenClaim.holds_of_wide 13 Try.f13 rfl rfl rfl rfl rfl rfl rfl ⟨rfl, rfl, rfl, rfl, rfl⟩ rfl rfl rfl rfl rfl (by kernel_rfl) Try.func13 (by kernel_rfl)
    (of_decide_eq_true (by kernel_rfl)) (by unfold Func.isWrapper; first | (rw [if_pos (by decide +kernel)]; kernel_rfl) | (rw [if_neg (by decide +kernel)]; exact ⟨rfl, rfl⟩))
    (fun os started H enc _ => lifted os started H enc)

/-- THE STATEMENT -/
theorem proved : Rows.JudgePacesSaid := over
end Go.Proofs.Ytikkmdbaekdolaa.judgePaces
