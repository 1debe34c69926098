/- For all rows of packets that came, acknowledgments a, rows l and m of 16-bit numbers and bytes drop, JudgeHonest returns true: Honest agrees with the definition. No condition. -/
import Derived.Test.YtikkmdbaekdolaaBase
import Derived.Test.YtikkmdbaekdolaaAliveJ
import Derived.Test.YtikkmdbaekdolaaJgC
import Derived.Test.YtikkmdbaekdolaaJgE
import Derived.Test.YtikkmdbaekdolaaJgD
namespace Go.Proofs.Ytikkmdbaekdolaa.judgeHonest
open Go.ChangeShapes Go.WideShapes Go.ChangeAt Go.RowKit Go.Lib
set_option linter.unusedVariables false
set_option maxRecDepth 100000

theorem boolOf (p : Prop) : ∃ B : Bool, B = true ↔ p := by
  by_cases h : p
  · exact ⟨true, by simp [h]⟩
  · exact ⟨false, by simp [h]⟩

/-- a row of packets, cell by cell -/
def flatD (l : List DatP) : List Value := l.flatMap fun d => [.int .u64 d.pn, .int .u64 d.least, .int .u64 d.off, .int .u64 d.x, .int .i64 d.ecn, .slice d.a d.L d.c]
theorem flatD_app (l k : List DatP) : flatD (l ++ k) = flatD l ++ flatD k := by simp [flatD]
theorem flatD_len : ∀ l : List DatP, (flatD l).length = l.length * 6
  | [] => rfl
  | d :: l => by
    have := flatD_len l
    simp only [flatD, List.flatMap_cons, List.length_append, List.length_cons, List.length_nil] at this ⊢
    omega
theorem flatD_one : ∀ (l : List DatP), ∀ u ∈ flatD l, u.oneCell' = true
  | [], u, h => by simp [flatD] at h
  | d :: l, u, h => by
    simp only [flatD, List.flatMap_cons, List.mem_append, List.mem_cons, List.not_mem_nil, or_false] at h
    rcases h with (rfl | rfl | rfl | rfl | rfl | rfl) | h
    iterate 6 (· rfl)
    exact flatD_one l u h
theorem flatD_at : ∀ (l : List DatP) (j : Nat), j < l.length * 6 → (flatD l)[j]? = ([.int .u64 (l.getD (j / 6) zD).pn, .int .u64 (l.getD (j / 6) zD).least, .int .u64 (l.getD (j / 6) zD).off, .int .u64 (l.getD (j / 6) zD).x, .int .i64 (l.getD (j / 6) zD).ecn, .slice (l.getD (j / 6) zD).a (l.getD (j / 6) zD).L (l.getD (j / 6) zD).c] : List Value)[j % 6]?
  | [], j, h => by simp at h
  | d :: l, j, h => by
    have e : flatD (d :: l) = [.int .u64 d.pn, .int .u64 d.least, .int .u64 d.off, .int .u64 d.x, .int .i64 d.ecn, .slice d.a d.L d.c] ++ flatD l := by simp [flatD]
    rw [e]
    by_cases h6 : j < 6
    · rw [List.getElem?_append_left (by simpa using h6), show j / 6 = 0 by omega, show j % 6 = j by omega]
      rfl
    · rw [List.getElem?_append_right (by simp; omega)]
      have := flatD_at l (j - 6) (by simp only [List.length_cons] at h; omega)
      simp only [List.length_cons, List.length_nil]
      rw [this, show j / 6 = (j - 6) / 6 + 1 by omega, show j % 6 = (j - 6) % 6 by omega]
      rfl
theorem CameAt.news {w : World} {g o : Nat} {l : List DatP} (h : CameAt w g o l) (j : Nat) (u : Value) (hu : (flatD l)[j]? = some u) : w.cell? ((⟨g, o, none⟩ : Addr).add j) = some u := by
  have hj : j < l.length * 6 := by
    have := (List.getElem?_eq_some_iff.1 hu).1
    rwa [flatD_len] at this
  rw [flatD_at l j hj] at hu
  obtain ⟨q0, q1, q2, q3, q4, q5⟩ := h.2 (j / 6) (by omega)
  have hm : j % 6 < 6 := Nat.mod_lt _ (by omega)
  have ha : ∀ k, j % 6 = k → (⟨g, o, none⟩ : Addr).add j = ⟨g, o + j / 6 * 6 + k, none⟩ := fun k hk => by
    rw [addr_add]
    congr 1
    omega
  rcases (by omega : j % 6 = 0 ∨ j % 6 = 1 ∨ j % 6 = 2 ∨ j % 6 = 3 ∨ j % 6 = 4 ∨ j % 6 = 5) with e | e | e | e | e | e <;> rw [e] at hu <;> rw [ha _ e] <;> simp only [List.getElem?_cons_zero, List.getElem?_cons_succ, Option.some.injEq] at hu <;> subst hu <;> first | exact q0 | exact q1 | exact q2 | exact q3 | exact q4 | exact q5
theorem CRow.news {w : World} {x : Option Addr} {l : List DatP} (hx : x = none → l = []) (h : CRow w x l) : (x = none ∧ l.length = 0) ∨ ∃ a, x = some a ∧ ∀ j u, (flatD l)[j]? = some u → w.cell? (a.add j) = some u := by
  cases x with
  | none => exact .inl ⟨rfl, by rw [hx rfl]; rfl⟩
  | some a =>
    rcases h with rfl | ⟨g, o, e, k⟩
    · exact .inr ⟨a, rfl, fun j u hu => by simp [flatD] at hu⟩
    · cases e
      exact .inr ⟨_, rfl, CameAt.news k⟩
theorem cameOfOwn {w : World} {B n : Nat} {v : Value} {l : List DatP} (hn : l.length = n) (h : w.ownsRow B 82 6 v n (flatD l)) : ∃ x c, v = .slice x n c ∧ CRow w x l := by
  obtain ⟨hlen, ⟨rfl, h2⟩ | ⟨g, c, cur, rfl, hg, hheap, hc, hm, hcs, htake⟩⟩ := h
  · subst h2
    exact ⟨none, 0, rfl, .inl (List.eq_nil_of_length_eq_zero hn)⟩
  · refine ⟨_, c, rfl, .inr ⟨g, 0, rfl, (Array.getElem?_eq_some_iff.1 hheap).1, fun i hi => ?_⟩⟩
    have hat : ∀ k, k < 6 → w.cell? ⟨g, 0 + i * 6 + k, none⟩ = ([.int .u64 (l.getD i zD).pn, .int .u64 (l.getD i zD).least, .int .u64 (l.getD i zD).off, .int .u64 (l.getD i zD).x, .int .i64 (l.getD i zD).ecn, .slice (l.getD i zD).a (l.getD i zD).L (l.getD i zD).c] : List Value)[k]? := fun k hk => by
      have e1 := flatD_at l (i * 6 + k) (by omega)
      rw [show (i * 6 + k) / 6 = i by omega, show (i * 6 + k) % 6 = k by omega] at e1
      rw [← e1, ← htake, List.getElem?_take, if_pos (by omega), cell_of_row w g _ cur _ _ hheap, Nat.zero_add]
      simp
    exact ⟨hat 0 (by omega), hat 1 (by omega), hat 2 (by omega), hat 3 (by omega), hat 4 (by omega), hat 5 (by omega)⟩

/-- a packet of that number, with that codepoint -/
def dP (p e : Int) : DatP := ⟨p, 0, 0, 0, e, none, 0, 0⟩
theorem fitD {ml : List DatP} (h : CFit ml) (p e : Int) (hp : W64 p) : CFit (ml ++ [dP p e]) := fun i hi => by
  by_cases h1 : i < ml.length
  · rw [List.getD_eq_getElem?_getD, List.getElem?_append_left h1, ← List.getD_eq_getElem?_getD]
    exact h i h1
  · have : i = ml.length := by simp at hi; omega
    subst this
    rw [List.getD_eq_getElem?_getD, List.getElem?_append_right (Nat.le_refl _), Nat.sub_self]
    exact ⟨hp, (by omega : 0 ≤ 9223372036854775807)⟩
theorem newsOf (W : World) (l : List Value) (t : TypeId) : ∀ (j : Nat) (x : Value), l[j]? = some x → (W.alloc (.cells l.toArray t)).cell? ((⟨W.heap.size, 0, none⟩ : Addr).add j) = some x := fun j x hx => by
  rw [addr_add, cell_of_row _ _ _ _ _ _ (heap_alloc_new W _), Nat.zero_add]
  simpa using hx
theorem newsOf6 (W : World) (l : List Value) (t : TypeId) {n : Nat} (hn : n = W.heap.size) : ∀ (j : Nat) (x : Value), l[j]? = some x → (W.alloc (.cells l.toArray t)).cell? ((⟨n, 0, none⟩ : Addr).add j) = some x := by
  subst hn
  exact newsOf W l t
theorem oneD (p e : Int) : ∀ u ∈ [Value.int .u64 p, .int .u64 0, .int .u64 0, .int .u64 0, .int .i64 e, .slice none 0 0], u.oneCell' = true := fun u hu => by
  simp only [List.mem_cons, List.not_mem_nil, or_false] at hu
  rcases hu with rfl | rfl | rfl | rfl | rfl | rfl <;> rfl
theorem own_set {w : World} {B n s : Nat} {e : TypeId} {v : Value} {xs : List Value} {D : Nat} (h : w.ownsRow B e s v n xs) (hne : v.ownBlock ≠ some D) (i : Nat) (u : Value) : (w.setCell ⟨D, i, none⟩ u).ownsRow B e s v n xs := by
  obtain ⟨h1, h2 | ⟨g, c, cur, rfl, hg, hh, rest⟩⟩ := h
  · exact ⟨h1, .inl h2⟩
  · refine ⟨h1, .inr ⟨g, c, cur, rfl, hg, ?_, rest⟩⟩
    rw [kept_set w _ _ g (fun e => hne (by rw [e]; rfl))]
    exact hh
theorem RowIs.fz {w : World} {g : Nat} {t : TypeId} {cs : Array Value} (h : RowIs w g t cs) (j : Nat) : w.frozen? ⟨g, j, none⟩ = false := by
  have h := RowIs.un h
  simp [World.frozen?, h]

set_option maxHeartbeats 4000000 in
theorem jNo (x : Option Addr) (n cc : Nat) (xs xm : Option Addr) (cs cm : Nat) (S M : List (Int × Int)) (hwS : ∀ s ∈ S, W64 s.1 ∧ W64 s.2) (hwM : ∀ s ∈ M, W64 s.1 ∧ W64 s.2) (hlS : S.length ≤ 9223372036854775807) (hlM : M.length ≤ 9223372036854775807) (t r : Int) (p : Bool) (w : World)
    (hS : SRow w xs S) (hM : SRow w xm M) (hmay : ¬ mayRows S M) :
    Calls Try.prog 40 #[.slice x n cc, .agg #[.slice xs S.length cs, .slice xm M.length cm, .int .u64 t, .int .u64 r, .bool p]] w fun e w' => e = .returned (.bool false) ∧ Below w.heap.size w w' := by
  have HMAYC := Lib.hid (fun W (h1 : SRow W xs S) (h2 : SRow W xm M) => aMay xs xm cs cm S M hwS hwM hlS hlM t r p false ⟨fun h => (by cases h), fun h => absurd h hmay⟩ W h1 h2)
  have HSS := Lib.hid hS
  have HSM := Lib.hid hM
  clear hS hM hwS hwM hmay
  go_enter Try.func40, Try.ntmps40
  go_wp2_with fail
  ((with_reducible refine (HMAYC.out _ (HSS.out.below ((Below.refl _ _).alloc (Nat.le_refl _) _)) (HSM.out.below ((Below.refl _ _).alloc (Nat.le_refl _) _))).mono ?_); rintro e' w1 ⟨rfl, b1⟩)
  have B1 : Below w.heap.size w w1 := ((Below.refl _ _).alloc (Nat.le_refl _) _).trans (b1.mono (by simp))
  clear b1
  go_wp2_with fail
  go_ret
  exact ⟨rfl, B1⟩

set_option maxHeartbeats 4000000 in
theorem rNo (x : Option Addr) (n cc : Nat) (xs xm : Option Addr) (cs cm : Nat) (S M : List (Int × Int)) (hwS : ∀ s ∈ S, W64 s.1 ∧ W64 s.2) (hwM : ∀ s ∈ M, W64 s.1 ∧ W64 s.2) (hlS : S.length ≤ 9223372036854775807) (hlM : M.length ≤ 9223372036854775807) (t r : Int) (p : Bool) (w : World)
    (hS : SRow w xs S) (hM : SRow w xm M) (hmay : ¬ mayRows S M) :
    Calls Try.prog 41 #[.slice x n cc, .agg #[.slice xs S.length cs, .slice xm M.length cm, .int .u64 t, .int .u64 r, .bool p]] w fun e w' => e = .returned (.bool false) ∧ Below w.heap.size w w' := by
  have HMAYC := Lib.hid (fun W (h1 : SRow W xs S) (h2 : SRow W xm M) => rMayAck xs xm cs cm S M hwS hwM hlS hlM t r p false ⟨fun h => (by cases h), fun h => absurd h hmay⟩ W h1 h2)
  have HSS := Lib.hid hS
  have HSM := Lib.hid hM
  clear hS hM hwS hwM hmay
  go_enter Try.func41, Try.ntmps41
  go_wp2_with fail
  ((with_reducible refine (HMAYC.out _ (HSS.out.below ((Below.refl _ _).alloc (Nat.le_refl _) _)) (HSM.out.below ((Below.refl _ _).alloc (Nat.le_refl _) _))).mono ?_); rintro e' w1 ⟨rfl, b1⟩)
  have B1 : Below w.heap.size w w1 := ((Below.refl _ _).alloc (Nat.le_refl _) _).trans (b1.mono (by simp))
  clear b1
  go_wp2_with fail
  go_ret
  exact ⟨rfl, B1⟩

theorem jHonA (x : Option Addr) (cc : Nat) (l : List DatP) (hf : CFit l) (hl : l.length ≤ 100000) (xs xm : Option Addr) (cs cm : Nat) (S M : List (Int × Int)) (hwS : ∀ s ∈ S, W64 s.1 ∧ W64 s.2) (hwM : ∀ s ∈ M, W64 s.1 ∧ W64 s.2) (hlS : S.length ≤ 9223372036854775807) (hlM : M.length ≤ 9223372036854775807) (t r : Int) (p : Bool) (w : World)
    (hC : CRow w x l) (hS : SRow w xs S) (hM : SRow w xm M) (B : Bool) (hB : B = true ↔ honP l S M) :
    Calls Try.prog 40 #[.slice x l.length cc, .agg #[.slice xs S.length cs, .slice xm M.length cm, .int .u64 t, .int .u64 r, .bool p]] w fun e w' => e = .returned (.bool B) ∧ Below w.heap.size w w' := by
  by_cases hmay : mayRows S M
  · exact jHon x cc l hf hl xs xm cs cm S M hwS hwM (by have := hmay.2.1; omega) (by have := hmay.2.2.1; omega) t r p w hC hS hM B hB
  · have hb : B = false := by
      cases B
      · rfl
      · exact absurd (hB.1 rfl).1 hmay
    subst hb
    exact jNo x l.length cc xs xm cs cm S M hwS hwM hlS hlM t r p w hS hM hmay

theorem rHonA (x : Option Addr) (cc : Nat) (l : List DatP) (hf : CFit l) (hl : l.length ≤ 100000) (xs xm : Option Addr) (cs cm : Nat) (S M : List (Int × Int)) (hwS : ∀ s ∈ S, W64 s.1 ∧ W64 s.2) (hwM : ∀ s ∈ M, W64 s.1 ∧ W64 s.2) (hlS : S.length ≤ 9223372036854775807) (hlM : M.length ≤ 9223372036854775807) (t r : Int) (p : Bool) (w : World)
    (hC : CRow w x l) (hS : SRow w xs S) (hM : SRow w xm M) (B : Bool) (hB : B = true ↔ honP l S M) :
    Calls Try.prog 41 #[.slice x l.length cc, .agg #[.slice xs S.length cs, .slice xm M.length cm, .int .u64 t, .int .u64 r, .bool p]] w fun e w' => e = .returned (.bool B) ∧ Below w.heap.size w w' := by
  by_cases hmay : mayRows S M
  · exact rHon x cc l hf hl xs xm cs cm S M hwS hwM (by have := hmay.2.1; omega) (by have := hmay.2.2.1; omega) t r p w hC hS hM B hB
  · have hb : B = false := by
      cases B
      · rfl
      · exact absurd (hB.1 rfl).1 hmay
    subst hb
    exact rNo x l.length cc xs xm cs cm S M hwS hwM hlS hlM t r p w hS hM hmay

set_option maxHeartbeats 16000000 in
theorem walkN (w : World) (x : Option Addr) (cc : Nat) (lc : List DatP) (hf : CFit lc) (hC : CRow w x lc) (hcc : lc.length ≤ cc ∧ cc ≤ 9223372036854775807) (xs xm : Option Addr) (cs cm : Nat) (S M : List (Int × Int)) (t r : Int) (p : Bool)
    (hS : SRow w xs S) (hM : SRow w xm M) (hwS : (∀ s ∈ S, W64 s.1 ∧ W64 s.2) ∧ S.length ≤ 9223372036854775807) (hwM : (∀ s ∈ M, W64 s.1 ∧ W64 s.2) ∧ M.length ≤ 9223372036854775807)
    (a2 : Option Addr) (len2 cap2 : Nat) (z2 : Nat → Int) (a3 : Option Addr) (len3 cap3 : Nat) (z3 : Nat → Int) (drop : Int) (l2 : len2 ≤ 9223372036854775807) (l3 : len3 ≤ 9223372036854775807) (w2 : U16Row w a2 len2 z2) (w3 : U16Row w a3 len3 z3) (hd : 0 ≤ drop ∧ drop ≤ 255) :
    Calls Try.prog 10 #[.slice x lc.length cc, .agg #[.slice xs S.length cs, .slice xm M.length cm, .int .u64 t, .int .u64 r, .bool p], .slice a2 len2 cap2, .slice a3 len3 cap3, .int .u8 drop] w fun e w' => e = .returned (.bool true) ∧ Below w.heap.size w w' := by
  obtain ⟨i, hi, hzz, hs, hbb⟩ := info_parts (P := Try.prog) (e := 82) (z := .agg #[.int .u64 0, .int .u64 0, .int .u64 0, .int .u64 0, .int .i64 0, .slice none 0 0]) (size := 6) (bytes := 64) (by kernel_rfl)
  obtain ⟨B0, hB0⟩ := boolOf (honP lc S M)
  have HJ' := Lib.hid (fun (hl : lc.length ≤ 60) W (h0 : CRow W x lc) (h1 : SRow W xs S) (h2 : SRow W xm M) => jHonA x cc lc hf (by omega) xs xm cs cm S M hwS.1 hwM.1 hwS.2 hwM.2 t r p W h0 h1 h2 B0 hB0)
  have HR' := Lib.hid (fun (hl : lc.length ≤ 60) W (h0 : CRow W x lc) (h1 : SRow W xs S) (h2 : SRow W xm M) => rHonA x cc lc hf (by omega) xs xm cs cm S M hwS.1 hwM.1 hwS.2 hwM.2 t r p W h0 h1 h2 B0 hB0)
  have HACK := Lib.hid (fun W (h1 : U16Row W a2 len2 z2) (h2 : U16Row W a3 len3 z3) => gAckB a2 a3 len2 cap2 len3 cap3 z2 z3 l2 l3 0 0 false (Wlit (by omega)) (Wlit (by omega)) W h1 h2)
  have HCR := Lib.hid hC
  have HSS := Lib.hid hS
  have HSM := Lib.hid hM
  have H2 := Lib.hid w2
  have H3 := Lib.hid w3
  have hl2 : (len2 : Int) ≤ 9223372036854775807 := by omega
  have hl3 : (len3 : Int) ≤ 9223372036854775807 := by omega
  obtain ⟨nc, hnc⟩ : ∃ n, lc.length = n := ⟨_, rfl⟩
  rw [hnc] at HJ' HR' hcc ⊢
  have hncI : (nc : Int) ≤ 9223372036854775807 := by omega
  clear hf hC hS hM hwS hwM w2 w3 l2 l3 hB0 hnc
  go_enter Try.func10, Try.ntmps10
  go_wp2_with fail
  ((with_reducible refine (aliveJ _).mono ?_); rintro e' w1 ⟨rfl, bb⟩)
  have c1 : Below w.heap.size w w1 := ((Below.refl _ _).alloc (Nat.le_refl _) _).trans (bb.mono (by simp))
  have r0 : RowIs w1 w.heap.size 74 #[.slice xs S.length cs, .slice xm M.length cm, .int .u64 t, .int .u64 r, .bool p] := RowIs.below (RowIs.mk (heap_alloc_new w _)) (by simp) bb
  clear bb
  by_cases hc : 60 < nc ∨ 60 < len2 ∨ 60 < len3
  · by_cases e0 : 60 < nc
    · have f0 : (60 : Int) < (nc : Int) := by omega
      clear hc
      go_wp2_with fail
      ((with_reducible refine (aliveJ _).mono ?_); rintro e' wB ⟨rfl, bB⟩)
      go_wp2_with fail
      go_ret
      exact ⟨rfl, c1.trans (bB.mono c1.size)⟩
    have f0 : ¬ (60 : Int) < (nc : Int) := by omega
    by_cases e1 : 60 < len2
    · have f1 : (60 : Int) < (len2 : Int) := by omega
      clear hc
      go_wp2_with fail
      ((with_reducible refine (aliveJ _).mono ?_); rintro e' wB ⟨rfl, bB⟩)
      go_wp2_with fail
      go_ret
      exact ⟨rfl, c1.trans (bB.mono c1.size)⟩
    have f1 : ¬ (60 : Int) < (len2 : Int) := by omega
    have f2 : (60 : Int) < (len3 : Int) := by omega
    clear hc
    go_wp2_with fail
    ((with_reducible refine (aliveJ _).mono ?_); rintro e' wB ⟨rfl, bB⟩)
    go_wp2_with fail
    go_ret
    exact ⟨rfl, c1.trans (bB.mono c1.size)⟩
  have f0 : ¬ (60 : Int) < (nc : Int) := by omega
  have f1 : ¬ (60 : Int) < (len2 : Int) := by omega
  have f2 : ¬ (60 : Int) < (len3 : Int) := by omega
  have n60 : nc ≤ 60 := by omega
  have HJ : Hid (∀ W, CRow W x lc → SRow W xs S → SRow W xm M → Calls Try.prog 40 #[.slice x nc cc, .agg #[.slice xs S.length cs, .slice xm M.length cm, .int .u64 t, .int .u64 r, .bool p]] W fun e w' => e = .returned (.bool B0) ∧ Below W.heap.size W w') := fun W h0 h1 h2 => HJ'.out n60 W h0 h1 h2
  have HRR : Hid (∀ W, CRow W x lc → SRow W xs S → SRow W xm M → Calls Try.prog 41 #[.slice x nc cc, .agg #[.slice xs S.length cs, .slice xm M.length cm, .int .u64 t, .int .u64 r, .bool p]] W fun e w' => e = .returned (.bool B0) ∧ Below W.heap.size W w') := fun W h0 h1 h2 => HR'.out n60 W h0 h1 h2
  clear hc HJ' HR'
  go_wp2_with fail
  clear f0 f1 f2
  refine held_absB (S := fun W => RowIs W (w.heap.size) 74 #[.slice xs S.length cs, .slice xm M.length cm, .int .u64 t, .int .u64 r, .bool p]) w (by kernel_rfl) r0 (Below.drew c1) (fun X AD GX => ?_)
  clear r0 c1
  refine wpAnyH_take (i := 0) (oi := _) (v := .slice x nc cc) rfl (by kernel_rfl) (by kernel_rfl) (by kernel_rfl) (fun _ _ _ h => h) (Or.inl ⟨by rfl, fun W hS => by go_simp⟩) AD ?_
  simp [Act.put]
  refine wpAnyH_take (i := 1) (oi := _) (v := .agg #[.slice xs S.length cs, .slice xm M.length cm, .int .u64 t, .int .u64 r, .bool p]) rfl (by kernel_rfl) (by kernel_rfl) (by kernel_rfl) (fun _ _ _ h => h) (Or.inl ⟨by rfl, fun W hS => by exact exec_load_row _ _ rfl _ rfl _ _ _ _ (hS) rfl rfl (by kernel_rfl)⟩) AD ?_
  simp [Act.put]
  refine wpAnyH_take (i := 3) (oi := _) (v := .slice x nc cc) rfl (by kernel_rfl) (by kernel_rfl) (by kernel_rfl) (fun _ _ _ h => h) (Or.inl ⟨by rfl, fun W hS => by go_simp⟩) AD ?_
  simp [Act.put]
  refine wpAnyH_take (i := 4) (oi := _) (v := .agg #[.slice xs S.length cs, .slice xm M.length cm, .int .u64 t, .int .u64 r, .bool p]) rfl (by kernel_rfl) (by kernel_rfl) (by kernel_rfl) (fun _ _ _ h => h) (Or.inl ⟨by rfl, fun W hS => by exact exec_load_row _ _ rfl _ rfl _ _ _ _ (hS) rfl rfl (by kernel_rfl)⟩) AD ?_
  simp [Act.put]
  refine wpAnyH_ready (rs := [2]) (by kernel_rfl) (by simp) ?_
  refine AllReadyH.cons (o := _) rfl (fun K hK => ?_) AllReadyH.nil
  go_simp
  refine (HJ.out _ (HCR.out.below GX) (HSS.out.below GX) (HSM.out.below GX)).mono ?_; rintro e' wN1 ⟨rfl, gN1⟩
  go_simp
  have AN1 := rowsBel1 AD gN1
  have GN1 := Below.trans GX (Below.mono gN1 (Below.size GX))
  refine hK.out _ _ AN1 (fun hH => ?_)
  clear hK K hH AD GX gN1
  have AD := AN1; have GX := GN1; clear AN1 GN1
  refine wpAnyH_ready (rs := [5]) (by kernel_rfl) (by simp) ?_
  refine AllReadyH.cons (o := _) rfl (fun K hK => ?_) AllReadyH.nil
  go_simp
  refine (HRR.out _ (HCR.out.below GX) (HSS.out.below GX) (HSM.out.below GX)).mono ?_; rintro e' wN2 ⟨rfl, gN2⟩
  go_simp
  have AN2 := rowsBel1 AD gN2
  have GN2 := Below.trans GX (Below.mono gN2 (Below.size GX))
  refine hK.out _ _ AN2 (fun hH => ?_)
  clear hK K hH AD GX gN2
  have AD := AN2; have GX := GN2; clear AN2 GN2
  refine wpAnyH_take (i := 6) (oi := _) (v := .bool false) rfl (by kernel_rfl) (by kernel_rfl) (by kernel_rfl) (fun _ _ _ h => h) (Or.inl ⟨by rfl, fun W hS => by go_simp⟩) AD ?_
  simp [Act.put]
  refine wpAnyH_done (by kernel_rfl) ?_ _
  clear HJ HRR HCR HSS HSM
  go_wp2_with fail
  ((with_reducible refine (HACK.out _ (H2.out.below GX) (H3.out.below GX)).mono ?_); rintro e' w4 ⟨d5, v, u, ok, rfl, b4, hmay, hls, hlm, V1, U1, hbd⟩)
  have c4 := GX.trans (b4.mono GX.size)
  obtain ⟨y1, d1, rfl, S1⟩ := V1.form
  obtain ⟨y2, d2, rfl, M1⟩ := U1.form
  obtain ⟨s, m, t5, r5, p5⟩ := d5
  simp only at hls hlm S1 M1 hbd
  unfold ackV
  simp only
  have HMAY := Lib.hid hmay
  have HBD := Lib.hid hbd
  have HS1 := Lib.hid S1
  have HM1 := Lib.hid M1
  clear hmay V1 U1 b4 AD GX HACK H2 H3 hbd S1 M1
  cases ok
  · go_wp2_with fail
    go_ret
    exact ⟨rfl, by repeat (first | with_reducible exact c4 | with_reducible refine Below.alloc ?_ c4.size _)⟩
  have HD := Lib.hid (HMAY.out rfl)
  clear HMAY
  go_wp2_with fail
  obtain ⟨wL, hwL⟩ : ∃ wL, wL = w4.alloc (.cells #[.slice y1 s.length d1, .slice y2 m.length d2, .int .u64 t5, .int .u64 r5, .bool p5] 74 (0, 0)) := ⟨_, rfl⟩
  have rB : RowIs wL w4.heap.size 74 #[.slice y1 s.length d1, .slice y2 m.length d2, .int .u64 t5, .int .u64 r5, .bool p5] := by rw [hwL]; exact RowIs.mk (heap_alloc_new w4 _)
  have bL : Below w4.heap.size w4 wL := by rw [hwL]; exact (Below.refl _ _).alloc (Nat.le_refl _) _
  have cL := c4.trans (bL.mono c4.size)
  have HS := Lib.hid (HS1.out.below bL)
  have HM := Lib.hid (HM1.out.below bL)
  rw [← hwL]
  obtain ⟨A, hA⟩ : ∃ A, A = w4.heap.size := ⟨_, rfl⟩
  rw [← hA] at rB ⊢
  clear hwL bL c4 HS1 HM1 hA
  have HGS := Lib.hid (MayA.rows HD.out).2.2.2.1
  have HWS := Lib.hid (goodL_all s 0 (Int.le_refl _) HD.out.s).2.1
  have HWM := Lib.hid (goodL_all m 0 (Int.le_refl _) HD.out.m).2.1
  have HHM := Lib.hid (fun (q : Int) (Bq : Bool) (hq : Bq = true ↔ hasP m q) W (h : SRow W y2 m) => rHasNum y2 d2 m (by omega) q Bq hq W h)
  obtain ⟨n1, hn1⟩ : ∃ n, s.length = n := ⟨_, rfl⟩
  have HN1 := Lib.hid hn1
  rw [hn1] at hls rB ⊢
  have hn1I : (n1 : Int) ≤ 32 := by omega
  clear hn1
  go_loopw [13, 55] (fun v iv wr => ∃ (k : Nat) (ml : List DatP), iv = .int .i64 (k : Int) ∧ k ≤ n1 ∧ ml.length ≤ k * 205 ∧ CFit ml ∧ wr.ownsRow wL.heap.size 82 6 v ml.length (flatD ml) ∧ Below wL.heap.size wL wr) (fun _ iv _ => (n1 - intOf iv).toNat)
  case atStart => exact ⟨0, [], by first | rfl | simp, by omega, by simp, fun j hj => absurd hj (by simp), World.ownsRow_nil _ _ _ _, Below.refl _ _⟩
  case round =>
    obtain ⟨k, ml, rfl, hk, hml, hfit, own, hbel⟩ := hrel
    have HFT := Lib.hid hfit
    have OWN := Lib.hid own
    have HBEL := Lib.hid hbel
    have lA := rB.lt
    have sL := hbel.size
    clear hfit own hbel
    by_cases hlt : k < n1
    · have hltI : (k : Int) < (n1 : Int) := by omega
      obtain ⟨gs, os, hy1, hgs, q0, q1⟩ := (HS.out.below HBEL.out).at k (by rw [HN1.out]; exact hlt)
      have hmem : s.getD k (0, 0) ∈ s := by rw [List.getD_eq_getElem?_getD, List.getElem?_eq_getElem (by rw [HN1.out]; exact hlt)]; exact List.getElem_mem _
      have hr1 := (HGS.out k (by rw [HN1.out]; exact hlt)).1
      have hr2 := HBD.out _ hmem
      have hr3 := (HWS.out _ hmem).1.1
      generalize s.getD k (0, 0) = sp at *
      obtain ⟨lo, hh⟩ := sp
      have e1 : lo ≤ hh := hr1.1
      have e2 : hh ≤ 204 := hr2
      have e3 : 0 ≤ lo := hr3
      simp only at q0 q1
      clear hmem hr1 hr2 hr3
      rw [hy1]
      have HY1 := Lib.hid hy1
      clear hy1
      go_wp2_with fail
      obtain ⟨P, hP⟩ : ∃ P, P = wr.heap.size := ⟨_, rfl⟩
      obtain ⟨wS, hwS⟩ : ∃ wS, wS = wr.alloc (.cells #[.int .u64 lo, .int .u64 hh] 80 (0, 0)) := ⟨_, rfl⟩
      have xS : BoxAt wS P lo hh := by rw [hwS, hP]; exact heap_alloc_new wr _
      have OWNS : Hid (wS.ownsRow wL.heap.size 82 6 u13 ml.length (flatD ml)) := by show World.ownsRow _ _ _ _ _ _ _; rw [hwS]; exact OWN.out.alloc _
      have hneP : Hid (u13.ownBlock ≠ some P) := by
        show _ ≠ _
        intro h
        have := (OWN.out.lt P h).2
        omega
      have bS : Below wL.heap.size wL wS := by rw [hwS]; exact HBEL.out.alloc HBEL.out.size _
      have hPL : wL.heap.size ≤ P := by omega
      rw [← hwS, ← hP]
      clear hwS hP OWN HBEL q0 q1 hgs
      go_loopw [13, 16] (fun v qv wi => ∃ (p : Int) (ml : List DatP), qv = .int .u64 p ∧ lo ≤ p ∧ p ≤ hh + 1 ∧ (ml.length : Int) ≤ k * 205 + (p - lo) ∧ CFit ml ∧ wi.ownsRow wL.heap.size 82 6 v ml.length (flatD ml) ∧ v.ownBlock ≠ some P ∧ BoxAt wi P lo hh ∧ Below wL.heap.size wL wi) (fun _ qv _ => (hh + 1 - intOf qv).toNat)
      case atStart => exact ⟨lo, ml, by first | rfl | simp, by omega, by omega, by omega, HFT.out, OWNS.out, hneP.out, xS, bS⟩
      case round =>
        clear HFT OWNS hneP xS bS hml
        obtain ⟨p, ml, rfl, hp1, hp2, hml, hfit, own, hne, X, bel⟩ := hrel
        have HFT := Lib.hid hfit
        have OWN := Lib.hid own
        have HNE := Lib.hid hne
        have HBEL := Lib.hid bel
        have lP := X.lt
        have sW := bel.size
        obtain ⟨⟨p0, p1⟩, _⟩ := X.cells
        clear hfit own hne bel
        by_cases hph : p ≤ hh
        case neg =>
          have hd1 : decide (p ≤ hh) = false := decide_eq_false hph
          clear hph
          go_wp2_with fail
          go_roundw
          case rel => exact ⟨k + 1, ml, by congr 1, by omega, by omega, HFT.out, OWN.out, HBEL.out⟩
          case measure => simp only [intOf]; omega
        have hd1 : decide (p ≤ hh) = true := decide_eq_true hph
        have hwp : IntKind.u64.wrap (p + 1) = p + 1 := by rw [IntKind.wrap_u64]; omega
        obtain ⟨r1, hr1⟩ : ∃ x, p % 19 = x := ⟨_, rfl⟩
        obtain ⟨r2, hr2⟩ : ∃ x, drop % 40 = x := ⟨_, rfl⟩
        have t1 : p.tmod 19 = r1 := by rw [Int.tmod_eq_emod_of_nonneg (by omega)]; exact hr1
        have t2 : drop.tmod 40 = r2 := by rw [Int.tmod_eq_emod_of_nonneg hd.1]; exact hr2
        have t3 : IntKind.u8.wrap r2 = r2 := by rw [IntKind.wrap_u8]; omega
        have t4 : IntKind.u64.wrap r2 = r2 := by rw [IntKind.wrap_u64]; omega
        have t5' : IntKind.u64.wrap r1 = r1 := by rw [IntKind.wrap_u64]; omega
        clear hr1 hr2
        by_cases heq : r1 = r2
        · have hb : (r1 == r2) = true := by rw [heq]; simp
          clear heq
          go_wp2_with fail
          go_roundw
          case rel => exact ⟨p + 1, ml, by congr 1, by omega, by omega, by omega, HFT.out, OWN.out, HNE.out, X, HBEL.out⟩
          case measure => simp only [intOf]; omega
        have hb : (r1 == r2) = false := by rw [beq_eq_false_iff_ne]; exact heq
        have rA := rB.below lA HBEL.out
        have lA2 := rA.lt
        have a1 := rA.cell 1
        simp at a1
        clear heq
        have key : ∀ (ec : Int), True := fun _ => trivial
        clear key
        by_cases hM : hasP m p
        · have HQM := Lib.hid (HHM.out p true ⟨fun _ => hM, fun _ => rfl⟩)
          clear hM
          go_wp2_with fail
          ((with_reducible refine (HQM.out _ (HM.out.below (by repeat (first | with_reducible exact HBEL.out | with_reducible apply below_drewN | with_reducible apply Below.drew | with_reducible refine Below.alloc ?_ (by have := Below.size HBEL.out; first | exact this | (simp; done) | (simp; omega)) _ | with_reducible refine Below.setCell ?_ (by have := Below.size HBEL.out; first | exact this | (simp; done) | (simp; omega)) _)))).mono ?_); rintro e' w5 ⟨rfl, b5⟩)
          obtain ⟨D, hD⟩ : ∃ D, D = wr.heap.size := ⟨_, rfl⟩
          have RD : RowIs w5 D 82 #[.int .u64 p, .int .u64 0, .int .u64 0, .int .u64 0, .int .i64 1, .slice none 0 0] := by rw [hD]; exact RowIs.bel (RowIs.mk (heap_alloc_new wr _)) b5
          have b15 : Below wr.heap.size wr w5 := ((Below.refl _ _).alloc (Nat.le_refl _) _).trans (b5.mono (by simp))
          have OWN5 := Lib.hid (own_below OWN.out b15)
          have HBEL5 := Lib.hid (HBEL.out.trans (b15.mono sW))
          have X5 : BoxAt w5 P lo hh := X.below lP b15
          have hneD : Hid (u13.ownBlock ≠ some D) := by
            show _ ≠ _
            intro h
            have := (OWN.out.lt D h).2
            omega
          have hDL : wL.heap.size ≤ D := by omega
          have hPD : P ≠ D := by omega
          have s5 := b15.size
          have lD := RD.lt
          rw [← hD]
          clear b5 b15 hD OWN HBEL X p0 p1 a1 rA HQM
          have f0 := RD.cell 0
          have f1 := RD.cell 1
          have f2 := RD.cell 2
          have f3 := RD.cell 3
          have f4 := RD.cell 4
          have f5 := RD.cell 5
          simp at f0 f1 f2 f3 f4 f5
          have fz := RowIs.fz RD 4
          go_wp2_with (at_builtin; refine wpList_append_any _ rfl (.tmp 80) (.tmp 82) 71 rfl wL.heap.size 82 i (.agg #[.int .u64 0, .int .u64 0, .int .u64 0, .int .u64 0, .int .i64 0, .slice none 0 0]) 6 64 Try.underlying71 hi hzz hs hbb rfl (by decide) u13 ml.length (flatD ml) rfl ((own_set OWN5.out hneD.out _ _).alloc _) (some ⟨w5.heap.size, 0, none⟩) 1 1 [.int .u64 p, .int .u64 0, .int .u64 0, .int .u64 0, .int .i64 3, .slice none 0 0] rfl rfl (.inr ⟨_, rfl, newsOf6 _ _ _ (by simp)⟩) (oneD _ _) (by simp [maxLen]; omega) (by omega) (by simp; omega) ?_; intro v7 w7 own7 hgrow7 hat7)
          have own8 : w7.ownsRow wL.heap.size 82 6 v7 (ml ++ [dP p 3]).length (flatD (ml ++ [dP p 3])) := by rw [flatD_app, List.length_append]; exact own7
          have lt7 : ∀ kk, u13.ownBlock = some kk → wL.heap.size ≤ kk := fun kk h => (OWN5.out.lt kk h).1
          have X7 : BoxAt w7 P lo hh := by
            have h5 : ((w5.setCell ⟨D, 4, none⟩ (.int .i64 3)).alloc (.cells #[.int .u64 p, .int .u64 0, .int .u64 0, .int .u64 0, .int .i64 3, .slice none 0 0] 82 (0, 0))).heap[P]? = w5.heap[P]? := by
              rw [heap_alloc_old _ _ (show P < _ by first | omega | (simp; omega))]
              exact kept_set w5 _ _ P hPD
            exact (hgrow7.block P (by simp; omega) (fun h => HNE.out h.symm)).trans (h5.trans X5)
          have b7 : Below wL.heap.size wL w7 := below_grownC (by repeat (first | with_reducible exact HBEL5.out | with_reducible apply below_drewN | with_reducible apply Below.drew | with_reducible refine Below.alloc ?_ (by have := Below.size HBEL5.out; first | exact this | (simp; done) | (simp; omega)) _ | with_reducible refine Below.setCell ?_ (by have := Below.size HBEL5.out; first | exact this | (simp; done) | (simp; omega)) _)) hgrow7 (by simp; omega) lt7
          have hne7 : v7.ownBlock ≠ some P := by
            rcases hat7 with h | h
            · rw [h]; exact HNE.out
            · rw [h]; intro h2; simp at h2; omega
          go_wp2_with fail
          go_roundw
          case rel => exact ⟨p + 1, ml ++ [dP p 3], by congr 1, by omega, by omega, by rw [List.length_append]; simp; omega, fitD HFT.out p 3 (by unfold W64; omega), own8, hne7, X7, b7⟩
          case measure => simp only [intOf]; omega
        · have HQM := Lib.hid (HHM.out p false ⟨fun h => (by cases h), fun h => absurd h hM⟩)
          clear hM
          go_wp2_with fail
          ((with_reducible refine (HQM.out _ (HM.out.below (by repeat (first | with_reducible exact HBEL.out | with_reducible apply below_drewN | with_reducible apply Below.drew | with_reducible refine Below.alloc ?_ (by have := Below.size HBEL.out; first | exact this | (simp; done) | (simp; omega)) _ | with_reducible refine Below.setCell ?_ (by have := Below.size HBEL.out; first | exact this | (simp; done) | (simp; omega)) _)))).mono ?_); rintro e' w5 ⟨rfl, b5⟩)
          obtain ⟨D, hD⟩ : ∃ D, D = wr.heap.size := ⟨_, rfl⟩
          have RD : RowIs w5 D 82 #[.int .u64 p, .int .u64 0, .int .u64 0, .int .u64 0, .int .i64 1, .slice none 0 0] := by rw [hD]; exact RowIs.bel (RowIs.mk (heap_alloc_new wr _)) b5
          have b15 : Below wr.heap.size wr w5 := ((Below.refl _ _).alloc (Nat.le_refl _) _).trans (b5.mono (by simp))
          have OWN5 := Lib.hid (own_below OWN.out b15)
          have HBEL5 := Lib.hid (HBEL.out.trans (b15.mono sW))
          have X5 : BoxAt w5 P lo hh := X.below lP b15
          have hneD : Hid (u13.ownBlock ≠ some D) := by
            show _ ≠ _
            intro h
            have := (OWN.out.lt D h).2
            omega
          have hDL : wL.heap.size ≤ D := by omega
          have hPD : P ≠ D := by omega
          have s5 := b15.size
          have lD := RD.lt
          rw [← hD]
          clear b5 b15 hD OWN HBEL X p0 p1 a1 rA HQM
          have f0 := RD.cell 0
          have f1 := RD.cell 1
          have f2 := RD.cell 2
          have f3 := RD.cell 3
          have f4 := RD.cell 4
          have f5 := RD.cell 5
          simp at f0 f1 f2 f3 f4 f5
          have fz := RowIs.fz RD 4
          go_wp2_with (at_builtin; refine wpList_append_any _ rfl (.tmp 80) (.tmp 82) 71 rfl wL.heap.size 82 i (.agg #[.int .u64 0, .int .u64 0, .int .u64 0, .int .u64 0, .int .i64 0, .slice none 0 0]) 6 64 Try.underlying71 hi hzz hs hbb rfl (by decide) u13 ml.length (flatD ml) rfl (OWN5.out.alloc _) (some ⟨w5.heap.size, 0, none⟩) 1 1 [.int .u64 p, .int .u64 0, .int .u64 0, .int .u64 0, .int .i64 1, .slice none 0 0] rfl rfl (.inr ⟨_, rfl, newsOf _ _ _⟩) (oneD _ _) (by simp [maxLen]; omega) (by omega) (by simp; omega) ?_; intro v7 w7 own7 hgrow7 hat7)
          have own8 : w7.ownsRow wL.heap.size 82 6 v7 (ml ++ [dP p 1]).length (flatD (ml ++ [dP p 1])) := by rw [flatD_app, List.length_append]; exact own7
          have lt7 : ∀ kk, u13.ownBlock = some kk → wL.heap.size ≤ kk := fun kk h => (OWN5.out.lt kk h).1
          have X7 : BoxAt w7 P lo hh := by
            have h5 : (w5.alloc (.cells #[.int .u64 p, .int .u64 0, .int .u64 0, .int .u64 0, .int .i64 1, .slice none 0 0] 82 (0, 0))).heap[P]? = w5.heap[P]? := by
              rw [heap_alloc_old _ _ (show P < _ by first | omega | (simp; omega))]
              skip
            exact (hgrow7.block P (by simp; omega) (fun h => HNE.out h.symm)).trans (h5.trans X5)
          have b7 : Below wL.heap.size wL w7 := below_grownC (by repeat (first | with_reducible exact HBEL5.out | with_reducible apply below_drewN | with_reducible apply Below.drew | with_reducible refine Below.alloc ?_ (by have := Below.size HBEL5.out; first | exact this | (simp; done) | (simp; omega)) _ | with_reducible refine Below.setCell ?_ (by have := Below.size HBEL5.out; first | exact this | (simp; done) | (simp; omega)) _)) hgrow7 (by simp; omega) lt7
          have hne7 : v7.ownBlock ≠ some P := by
            rcases hat7 with h | h
            · rw [h]; exact HNE.out
            · rw [h]; intro h2; simp at h2; omega
          go_wp2_with fail
          go_roundw
          case rel => exact ⟨p + 1, ml ++ [dP p 1], by congr 1, by omega, by omega, by rw [List.length_append]; simp; omega, fitD HFT.out p 1 (by unfold W64; omega), own8, hne7, X7, b7⟩
          case measure => simp only [intOf]; omega
    · have hltI : ¬ (k : Int) < (n1 : Int) := by omega
      have hdd : decide ((k : Int) < (n1 : Int)) = false := decide_eq_false hltI
      have r0 := rB.below lA HBEL.out
      obtain ⟨xt, ct, hv13, hTC⟩ := cameOfOwn rfl OWN.out
      rw [hv13]
      have HTC := Lib.hid hTC
      have hml2 : ml.length ≤ 100000 := by omega
      obtain ⟨B1, hB1⟩ := boolOf (honP ml s m)
      obtain ⟨B2, hB2⟩ := boolOf (honP ml s [])
      have HJ1 : Hid (∀ W, CRow W xt ml → SRow W y1 s → SRow W y2 m → Calls Try.prog 40 #[.slice xt ml.length ct, .agg #[.slice y1 n1 d1, .slice y2 m.length d2, .int .u64 t5, .int .u64 r5, .bool p5]] W fun e w' => e = .returned (.bool B1) ∧ Below W.heap.size W w') := fun W h0 h1 h2 => by
        have := jHonA xt ct ml HFT.out hml2 y1 y2 d1 d2 s m HWS.out HWM.out (by rw [HN1.out]; omega) (by omega) t5 r5 p5 W h0 h1 h2 B1 hB1
        rwa [HN1.out] at this
      have HQ1 : Hid (∀ W, CRow W xt ml → SRow W y1 s → SRow W y2 m → Calls Try.prog 41 #[.slice xt ml.length ct, .agg #[.slice y1 n1 d1, .slice y2 m.length d2, .int .u64 t5, .int .u64 r5, .bool p5]] W fun e w' => e = .returned (.bool B1) ∧ Below W.heap.size W w') := fun W h0 h1 h2 => by
        have := rHonA xt ct ml HFT.out hml2 y1 y2 d1 d2 s m HWS.out HWM.out (by rw [HN1.out]; omega) (by omega) t5 r5 p5 W h0 h1 h2 B1 hB1
        rwa [HN1.out] at this
      have HJ2 : Hid (∀ W, CRow W xt ml → SRow W y1 s → Calls Try.prog 40 #[.slice xt ml.length ct, .agg #[.slice y1 n1 d1, .slice none 0 0, .int .u64 t5, .int .u64 r5, .bool p5]] W fun e w' => e = .returned (.bool B2) ∧ Below W.heap.size W w') := fun W h0 h1 => by
        have := jHonA xt ct ml HFT.out hml2 y1 none d1 0 s [] HWS.out (fun s hs => absurd hs (by simp)) (by rw [HN1.out]; omega) (by simp) t5 r5 p5 W h0 h1 (.inl rfl) B2 hB2
        rwa [HN1.out] at this
      have HQ2 : Hid (∀ W, CRow W xt ml → SRow W y1 s → Calls Try.prog 41 #[.slice xt ml.length ct, .agg #[.slice y1 n1 d1, .slice none 0 0, .int .u64 t5, .int .u64 r5, .bool p5]] W fun e w' => e = .returned (.bool B2) ∧ Below W.heap.size W w') := fun W h0 h1 => by
        have := rHonA xt ct ml HFT.out hml2 y1 none d1 0 s [] HWS.out (fun s hs => absurd hs (by simp)) (by rw [HN1.out]; omega) (by simp) t5 r5 p5 W h0 h1 (.inl rfl) B2 hB2
        rwa [HN1.out] at this
      obtain ⟨N3, hN3⟩ : ∃ N, ml.length = N := ⟨_, rfl⟩
      rw [hN3] at HJ1 HQ1 HJ2 HQ2 ⊢
      clear hv13 hTC hB1 hB2 hN3 OWN HFT
      have a0 := r0.cell 0
      have a1 := r0.cell 1
      have a2 := r0.cell 2
      have a3 := r0.cell 3
      have a4 := r0.cell 4
      simp at a0 a1 a2 a3 a4
      have lA2 := r0.lt
      go_wp2_with fail
      obtain ⟨C, hC⟩ : ∃ C, C = wr.heap.size := ⟨_, rfl⟩
      obtain ⟨Y, hY⟩ : ∃ Y, Y = wr.alloc (.cells #[.slice y1 n1 d1, .slice none 0 0, .int .u64 t5, .int .u64 r5, .bool p5] 74 (0, 0)) := ⟨_, rfl⟩
      have bY : Below wr.heap.size wr Y := by rw [hY]; exact (Below.refl _ _).alloc (Nat.le_refl _) _
      have rC : RowIs Y C 74 #[.slice y1 n1 d1, .slice none 0 0, .int .u64 t5, .int .u64 r5, .bool p5] := by rw [hY, hC]; exact RowIs.mk (heap_alloc_new wr _)
      have r0 := r0.bel bY
      have cY : Below w.heap.size w Y := cL.trans ((HBEL.out.trans (bY.mono sL)).mono cL.size)
      have HTC := Lib.hid (HTC.out.below bY)
      have HSY := Lib.hid ((HS.out.below HBEL.out).below bY)
      have HMY := Lib.hid ((HM.out.below HBEL.out).below bY)
      rw [← hY, ← hC]
      clear hY hC bY lA2 a0 a1 a2 a3 a4 HBEL
      refine held_absB (S := fun W => RowIs W (A) 74 #[.slice y1 n1 d1, .slice y2 m.length d2, .int .u64 t5, .int .u64 r5, .bool p5] ∧ RowIs W (C) 74 #[.slice y1 n1 d1, .slice none 0 0, .int .u64 t5, .int .u64 r5, .bool p5]) Y (by kernel_rfl) ⟨r0, rC⟩ (Below.drew (Below.refl _ _)) (fun X AD GX => ?_)
      clear r0 rC
      refine wpAnyH_take (i := 0) (oi := _) (v := .slice xt N3 ct) rfl (by kernel_rfl) (by kernel_rfl) (by kernel_rfl) (fun _ _ _ h => h) (Or.inl ⟨by rfl, fun W hS => by go_simp⟩) AD ?_
      simp [Act.put]
      refine wpAnyH_take (i := 1) (oi := _) (v := .agg #[.slice y1 n1 d1, .slice y2 m.length d2, .int .u64 t5, .int .u64 r5, .bool p5]) rfl (by kernel_rfl) (by kernel_rfl) (by kernel_rfl) (fun _ _ _ h => h) (Or.inl ⟨by rfl, fun W hS => by exact exec_load_row _ _ rfl _ rfl _ _ _ _ (hS.1) rfl rfl (by kernel_rfl)⟩) AD ?_
      simp [Act.put]
      refine wpAnyH_take (i := 3) (oi := _) (v := .slice xt N3 ct) rfl (by kernel_rfl) (by kernel_rfl) (by kernel_rfl) (fun _ _ _ h => h) (Or.inl ⟨by rfl, fun W hS => by go_simp⟩) AD ?_
      simp [Act.put]
      refine wpAnyH_take (i := 4) (oi := _) (v := .agg #[.slice y1 n1 d1, .slice y2 m.length d2, .int .u64 t5, .int .u64 r5, .bool p5]) rfl (by kernel_rfl) (by kernel_rfl) (by kernel_rfl) (fun _ _ _ h => h) (Or.inl ⟨by rfl, fun W hS => by exact exec_load_row _ _ rfl _ rfl _ _ _ _ (hS.1) rfl rfl (by kernel_rfl)⟩) AD ?_
      simp [Act.put]
      refine wpAnyH_ready (rs := [2]) (by kernel_rfl) (by simp) ?_
      refine AllReadyH.cons (o := _) rfl (fun K hK => ?_) AllReadyH.nil
      go_simp
      refine (HJ1.out _ (HTC.out.below GX) (HSY.out.below GX) (HMY.out.below GX)).mono ?_; rintro e' wN1 ⟨rfl, gN1⟩
      go_simp
      have AN1 := rowsBel2 AD gN1
      have GN1 := Below.trans GX (Below.mono gN1 (Below.size GX))
      refine hK.out _ _ AN1 (fun hH => ?_)
      clear hK K hH AD GX gN1
      have AD := AN1; have GX := GN1; clear AN1 GN1
      refine wpAnyH_ready (rs := [5]) (by kernel_rfl) (by simp) ?_
      refine AllReadyH.cons (o := _) rfl (fun K hK => ?_) AllReadyH.nil
      go_simp
      refine (HQ1.out _ (HTC.out.below GX) (HSY.out.below GX) (HMY.out.below GX)).mono ?_; rintro e' wN2 ⟨rfl, gN2⟩
      go_simp
      have AN2 := rowsBel2 AD gN2
      have GN2 := Below.trans GX (Below.mono gN2 (Below.size GX))
      refine hK.out _ _ AN2 (fun hH => ?_)
      clear hK K hH AD GX gN2
      have AD := AN2; have GX := GN2; clear AN2 GN2
      refine wpAnyH_take (i := 6) (oi := _) (v := .bool true) rfl (by kernel_rfl) (by kernel_rfl) (by kernel_rfl) (fun _ _ _ h => h) (Or.inl ⟨by rfl, fun W hS => by go_simp⟩) AD ?_
      simp [Act.put]
      refine wpAnyH_take (i := 7) (oi := _) (v := .bool true) rfl (by kernel_rfl) (by kernel_rfl) (by kernel_rfl) (fun _ _ _ h => h) (Or.inl ⟨by rfl, fun W hS => by go_simp⟩) AD ?_
      simp [Act.put]
      refine wpAnyH_take (i := 8) (oi := _) (v := .slice xt N3 ct) rfl (by kernel_rfl) (by kernel_rfl) (by kernel_rfl) (fun _ _ _ h => h) (Or.inl ⟨by rfl, fun W hS => by go_simp⟩) AD ?_
      simp [Act.put]
      refine wpAnyH_take (i := 9) (oi := _) (v := .agg #[.slice y1 n1 d1, .slice none 0 0, .int .u64 t5, .int .u64 r5, .bool p5]) rfl (by kernel_rfl) (by kernel_rfl) (by kernel_rfl) (fun _ _ _ h => h) (Or.inl ⟨by rfl, fun W hS => by exact exec_load_row _ _ rfl _ rfl _ _ _ _ (hS.2) rfl rfl (by kernel_rfl)⟩) AD ?_
      simp [Act.put]
      refine wpAnyH_take (i := 11) (oi := _) (v := .slice xt N3 ct) rfl (by kernel_rfl) (by kernel_rfl) (by kernel_rfl) (fun _ _ _ h => h) (Or.inl ⟨by rfl, fun W hS => by go_simp⟩) AD ?_
      simp [Act.put]
      refine wpAnyH_take (i := 12) (oi := _) (v := .agg #[.slice y1 n1 d1, .slice none 0 0, .int .u64 t5, .int .u64 r5, .bool p5]) rfl (by kernel_rfl) (by kernel_rfl) (by kernel_rfl) (fun _ _ _ h => h) (Or.inl ⟨by rfl, fun W hS => by exact exec_load_row _ _ rfl _ rfl _ _ _ _ (hS.2) rfl rfl (by kernel_rfl)⟩) AD ?_
      simp [Act.put]
      refine wpAnyH_ready (rs := [10]) (by kernel_rfl) (by simp) ?_
      refine AllReadyH.cons (o := _) rfl (fun K hK => ?_) AllReadyH.nil
      go_simp
      refine (HJ2.out _ (HTC.out.below GX) (HSY.out.below GX)).mono ?_; rintro e' wN3 ⟨rfl, gN3⟩
      go_simp
      have AN3 := rowsBel2 AD gN3
      have GN3 := Below.trans GX (Below.mono gN3 (Below.size GX))
      refine hK.out _ _ AN3 (fun hH => ?_)
      clear hK K hH AD GX gN3
      have AD := AN3; have GX := GN3; clear AN3 GN3
      refine wpAnyH_ready (rs := [13]) (by kernel_rfl) (by simp) ?_
      refine AllReadyH.cons (o := _) rfl (fun K hK => ?_) AllReadyH.nil
      go_simp
      refine (HQ2.out _ (HTC.out.below GX) (HSY.out.below GX)).mono ?_; rintro e' wN4 ⟨rfl, gN4⟩
      go_simp
      have AN4 := rowsBel2 AD gN4
      have GN4 := Below.trans GX (Below.mono gN4 (Below.size GX))
      refine hK.out _ _ AN4 (fun hH => ?_)
      clear hK K hH AD GX gN4
      have AD := AN4; have GX := GN4; clear AN4 GN4
      refine wpAnyH_take (i := 14) (oi := _) (v := .bool true) rfl (by kernel_rfl) (by kernel_rfl) (by kernel_rfl) (fun _ _ _ h => h) (Or.inl ⟨by rfl, fun W hS => by go_simp⟩) AD ?_
      simp [Act.put]
      refine wpAnyH_take (i := 15) (oi := _) (v := .bool true) rfl (by kernel_rfl) (by kernel_rfl) (by kernel_rfl) (fun _ _ _ h => h) (Or.inl ⟨by rfl, fun W hS => by go_simp⟩) AD ?_
      simp [Act.put]
      refine wpAnyH_take (i := 16) (oi := _) (v := .bool true) rfl (by kernel_rfl) (by kernel_rfl) (by kernel_rfl) (fun _ _ _ h => h) (Or.inl ⟨by rfl, fun W hS => by go_simp⟩) AD ?_
      simp [Act.put]
      refine wpAnyH_done (by kernel_rfl) ?_ _
      go_wp2_with fail
      go_ret
      exact ⟨rfl, cY.trans (GX.mono cY.size)⟩

theorem walk (a0 : Option Addr) (len0 cap0 : Nat) (xs xm : Option Addr) (cs cm : Nat) (S M : List (Int × Int)) (t r : Int) (p : Bool) (a2 : Option Addr) (len2 cap2 : Nat) (z2 : List Int) (a3 : Option Addr) (len3 cap3 : Nat) (z3 : List Int) (drop : Int) (w : World) (w0 : ∃ l : List DatP, l.length = len0 ∧ CFit l ∧ (a0 = none → l = []) ∧ CRow w a0 l ∧ len0 ≤ cap0 ∧ cap0 ≤ 9223372036854775807)
    (u0 : SRow w xs S) (u1 : SRow w xm M) (u2 : (∀ s ∈ S, W64 s.1 ∧ W64 s.2) ∧ S.length ≤ 9223372036854775807) (u3 : (∀ s ∈ M, W64 s.1 ∧ W64 s.2) ∧ M.length ≤ 9223372036854775807) (u4 : W64 t) (u5 : W64 r) (w2 : IsRow .u16 w a2 len2 cap2 z2) (w3 : IsRow .u16 w a3 len3 cap3 z3) (w4 : 0 ≤ drop ∧ drop ≤ 255) :
    Calls Try.prog 10 #[.slice a0 len0 cap0, .agg #[.slice xs S.length cs, .slice xm M.length cm, .int .u64 t, .int .u64 r, .bool p], .slice a2 len2 cap2, .slice a3 len3 cap3, .int .u8 drop] w fun e w' => e = .returned (.bool true) ∧ Below w.heap.size w w' := by
  obtain ⟨l, rfl, hf, hx, hC, hcap, hc9⟩ := w0
  obtain ⟨k2, l2⟩ := U16Row.of w2
  obtain ⟨k3, l3⟩ := U16Row.of w3
  exact walkN w a0 cap0 l hf hC ⟨hcap, hc9⟩ xs xm cs cm S M t r p u0 u1 u2 u3 a2 len2 cap2 _ a3 len3 cap3 _ drop l2 l3 k2 k3 w4

/-! ### the row's step -/
set_option maxRecDepth 100000 in
theorem lifted (os : Os) (started : os.Started) (H : Type) (enc : TypeId × Value → H) :
    ReturnsInHanded {} Try.checked os 10 .any (Rows.judgeHonestSpec.pre6 enc Try.prog Try.f10 Rows.judgeHonestRow.domain false) (Rows.judgeHonestSpec.post enc Try.prog Try.f10 false true false false) := by
  refine returnsInHanded_of_change (C := Try.checked) own started (by kernel_rfl) Try.func10
    (ChangeSpec.witness6 (enc := enc) (C := Try.checked) false ⟨#[], #[.slice none 0 0, .agg #[.slice none 0 0, .slice none 0 0, .int .u64 0, .int .u64 0, .bool false], .slice none 0 0, .slice none 0 0, .int .u8 0], []⟩ 8 (by kernel_rfl) (by kernel_rfl) (by kernel_rfl) (by kernel_rfl)) ?_
  intro W base args ds gs before hval0 hW hcnd _
  have hval : ∀ (j : Nat) t v, Try.f10.params[j]? = some t → args[j]? = some v → Value.okWide Try.prog W .any base t v := hval0
  have hW' := hW
  obtain ⟨p, q, hA0, hV, rfl, hfz, hnd⟩ := hW
  have hA : DataW.TrodAll enc Try.prog W 0 (fun _ => true) true Try.f10.params.toList args.toList ds p := hA0
  rw [Try.params10] at hA hval
  obtain ⟨v0, vs0, d0, ds0, p0, q0, hargs, rfl, rfl, h0, r0⟩ := trodAll_cons hA
  obtain ⟨v1, vs1, d1, ds1, p1, q1, rfl, rfl, rfl, h1, r1⟩ := trodAll_cons r0
  obtain ⟨v2, vs2, d2, ds2, p2, q2, rfl, rfl, rfl, h2, r2⟩ := trodAll_cons r1
  obtain ⟨v3, vs3, d3, ds3, p3, q3, rfl, rfl, rfl, h3, r3⟩ := trodAll_cons r2
  obtain ⟨v4, vs4, d4, ds4, p4, q4, rfl, rfl, rfl, h4, r4⟩ := trodAll_cons r3
  obtain ⟨rfl, rfl, rfl⟩ := trodAll_nil r4
  obtain rfl : args = #[v0, v1, v2, v3, v4] := by cases args; simp_all
  obtain ⟨rfl, rfl⟩ := trodVars_none hV
  obtain ⟨a0, len0, cap0, rfl⟩ := okWide_slice Try.underlying71 (hval 0 71 v0 rfl rfl)
  have k0 := h0
  have lt0 : ∀ x ∈ p0, x.block < W.heap.size := by obtain ⟨m, hm⟩ := k0; exact DataW.trod_lt m _ _ _ hm
  have w0 : ∃ l : List DatP, l.length = len0 ∧ CFit l ∧ (a0 = none → l = []) ∧ CRow W a0 l ∧ len0 ≤ cap0 ∧ cap0 ≤ 9223372036854775807 := by
    obtain ⟨fuel, hf⟩ := h0
    exact came_of (by simpa [Value.cells] using hf)
  obtain ⟨cs1, rfl, hsz1⟩ := okWide_struct Try.underlying74 (hval 1 74 v1 rfl rfl)
  have k1 := h1
  have lt1 : ∀ x ∈ p1, x.block < W.heap.size := by obtain ⟨m, hm⟩ := k1; exact DataW.trod_lt m _ _ _ hm
  obtain ⟨A1, B1, C1, D1, E1, F1, G1, H1, Z1, hcs1, u0, u1, u2, u3, u4, u5⟩ : ∃ (a b : Option Addr) (ca cb : Nat) (l m : List (Int × Int)) (t r : Int) (p : Bool), cs1 = #[.slice a l.length ca, .slice b m.length cb, .int .u64 t, .int .u64 r, .bool p] ∧
      SRow W a l ∧ SRow W b m ∧ ((∀ s ∈ l, W64 s.1 ∧ W64 s.2) ∧ l.length ≤ 9223372036854775807) ∧ ((∀ s ∈ m, W64 s.1 ∧ W64 s.2) ∧ m.length ≤ 9223372036854775807) ∧ W64 t ∧ W64 r := by
    obtain ⟨fuel, hf⟩ := h1
    obtain ⟨a, b, ca, cb, l, m, t, r, p, he, hr⟩ := open_ack (by simpa [Value.cells] using hf)
    exact ⟨a, b, ca, cb, l, m, t, r, p, Array.toList_inj.1 he, hr⟩
  subst hcs1
  obtain ⟨a2, len2, cap2, rfl⟩ := okWide_slice Try.underlying75 (hval 2 75 v2 rfl rfl)
  have k2 := h2
  have lt2 : ∀ x ∈ p2, x.block < W.heap.size := by obtain ⟨m, hm⟩ := k2; exact DataW.trod_lt m _ _ _ hm
  obtain ⟨z2, w2⟩ : ∃ zs, IsRow .u16 W a2 len2 cap2 zs := by
    obtain ⟨fuel, hf⟩ := h2
    rcases open_ints Try.underlying75 Try.underlying67 (by kernel_rfl) hf with ⟨hcs, _⟩ | ⟨x, l, c, zs, hcs, _, hl, hm, hz, _, hcell, hwz⟩
    · simp [Value.cells] at hcs
      obtain ⟨rfl, rfl, rfl⟩ := hcs
      exact ⟨[], .inl ⟨rfl, rfl, rfl, rfl⟩⟩
    · simp [Value.cells] at hcs
      obtain ⟨rfl, rfl, rfl⟩ := hcs
      exact ⟨zs, .inr ⟨_, rfl, hl, hm, by simpa using hz, hcell, hwz⟩⟩
  obtain ⟨a3, len3, cap3, rfl⟩ := okWide_slice Try.underlying75 (hval 3 75 v3 rfl rfl)
  have k3 := h3
  have lt3 : ∀ x ∈ p3, x.block < W.heap.size := by obtain ⟨m, hm⟩ := k3; exact DataW.trod_lt m _ _ _ hm
  obtain ⟨z3, w3⟩ : ∃ zs, IsRow .u16 W a3 len3 cap3 zs := by
    obtain ⟨fuel, hf⟩ := h3
    rcases open_ints Try.underlying75 Try.underlying67 (by kernel_rfl) hf with ⟨hcs, _⟩ | ⟨x, l, c, zs, hcs, _, hl, hm, hz, _, hcell, hwz⟩
    · simp [Value.cells] at hcs
      obtain ⟨rfl, rfl, rfl⟩ := hcs
      exact ⟨[], .inl ⟨rfl, rfl, rfl, rfl⟩⟩
    · simp [Value.cells] at hcs
      obtain ⟨rfl, rfl, rfl⟩ := hcs
      exact ⟨zs, .inr ⟨_, rfl, hl, hm, by simpa using hz, hcell, hwz⟩⟩
  obtain ⟨a4, rfl, rfl, rfl, w4⟩ := open_int Try.underlying5 (hval 4 5 v4 rfl rfl) h4
  clear hA0 hval0
  refine (walk a0 len0 cap0 A1 B1 C1 D1 E1 F1 G1 H1 Z1 a2 len2 cap2 z2 a3 len3 cap3 z3 a4 W w0 u0 u1 u2 u3 u4 u5 w2 w3 (wfU8 w4)).mono fun e W' ⟨he, bel⟩ => ?_
  subst he
  exact ⟨_, rfl, _, _, _, [], _, [], hW', trodAll_mk1 (shut_bool Try.underlying4 _), (trodAll_cons_mk (Below.trod laidOut (by kernel_rfl) (of_decide_eq_true (by kernel_rfl)) k0 bel lt0) (trodAll_cons_mk (Below.trod laidOut (by kernel_rfl) (of_decide_eq_true (by kernel_rfl)) k1 bel lt1) (trodAll_cons_mk (Below.trod laidOut (by kernel_rfl) (of_decide_eq_true (by kernel_rfl)) k2 bel lt2) (trodAll_cons_mk (Below.trod laidOut (by kernel_rfl) (of_decide_eq_true (by kernel_rfl)) k3 bel lt3) (trodAll_cons_mk (shut_int Try.underlying5 w4) trodAll_mk0))))), rfl, bel.frame _, fun h => by cases h⟩

theorem over : Rows.judgeHonestRow.holds Try.pinned (OpenSpec.ofChange Rows.judgeHonestSpec) :=
  OpenClaim.holds_of_wide 10 Try.f10 rfl rfl rfl rfl rfl rfl rfl ⟨rfl, rfl, rfl, rfl, rfl⟩ rfl rfl rfl rfl rfl (by kernel_rfl) Try.func10 (by kernel_rfl)
    (of_decide_eq_true (by kernel_rfl)) (by unfold Func.isWrapper; first | (rw [if_pos (by decide +kernel)]; kernel_rfl) | (rw [if_neg (by decide +kernel)]; exact ⟨rfl, rfl⟩))
    (fun os started H enc _ => lifted os started H enc)

/-- THE STATEMENT -/
theorem proved : Rows.JudgeHonestSaid := over
end Go.Proofs.Ytikkmdbaekdolaa.judgeHonest
