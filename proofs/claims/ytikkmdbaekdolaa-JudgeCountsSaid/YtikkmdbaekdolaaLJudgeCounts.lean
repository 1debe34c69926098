/- For all rows of packets that came, configurations c, slices k of 32-bit numbers and words delivered, JudgeCounts returns true: Bytes and Most agree with the definition. No condition. -/
import Derived.Test.YtikkmdbaekdolaaBase
import Derived.Test.YtikkmdbaekdolaaAliveJ
import Derived.Test.YtikkmdbaekdolaaJudge
import Derived.Test.YtikkmdbaekdolaaJgA
import Derived.Test.YtikkmdbaekdolaaJgD
import Derived.Test.YtikkmdbaekdolaaConf0
namespace Go.Proofs.Ytikkmdbaekdolaa.judgeCounts
open Go.ChangeShapes Go.WideShapes Go.ChangeAt Go.RowKit Go.Lib
set_option linter.unusedVariables false
set_option maxRecDepth 100000

theorem openConfJ {cs : Array Value} (h : Fits [some .i64, some .u64, some .i64, some .u64, some .i64, some .u64, some .u64, some .u64, some .u64, some .i64, some .u64, some .u64, some .u64, some .u64, some .u64, some .i64, some .u64] cs.toList) :
    ∃ x0 x1 x2 x3 x4 x5 x6 x7 x8 x9 x10 x11 x12 x13 x14 x15 x16 : Int, cs = #[.int .i64 x0, .int .u64 x1, .int .i64 x2, .int .u64 x3, .int .i64 x4, .int .u64 x5, .int .u64 x6, .int .u64 x7, .int .u64 x8, .int .i64 x9, .int .u64 x10, .int .u64 x11, .int .u64 x12, .int .u64 x13, .int .u64 x14, .int .i64 x15, .int .u64 x16] ∧ W64 x5 ∧ W64 x6 ∧ W64 x12 ∧ W64 x14 ∧ -9223372036854775808 ≤ x2 ∧ x2 ≤ 9223372036854775807 := by
  obtain ⟨l⟩ := cs
  rcases l with _ | ⟨v0, _ | ⟨v1, _ | ⟨v2, _ | ⟨v3, _ | ⟨v4, _ | ⟨v5, _ | ⟨v6, _ | ⟨v7, _ | ⟨v8, _ | ⟨v9, _ | ⟨v10, _ | ⟨v11, _ | ⟨v12, _ | ⟨v13, _ | ⟨v14, _ | ⟨v15, _ | ⟨v16, _ | ⟨v17, l⟩⟩⟩⟩⟩⟩⟩⟩⟩⟩⟩⟩⟩⟩⟩⟩⟩⟩ <;> simp only [Fits, and_false] at h
  obtain ⟨⟨x0, rfl, h0⟩, ⟨x1, rfl, h1⟩, ⟨x2, rfl, h2⟩, ⟨x3, rfl, h3⟩, ⟨x4, rfl, h4⟩, ⟨x5, rfl, h5⟩, ⟨x6, rfl, h6⟩, ⟨x7, rfl, h7⟩, ⟨x8, rfl, h8⟩, ⟨x9, rfl, h9⟩, ⟨x10, rfl, h10⟩, ⟨x11, rfl, h11⟩, ⟨x12, rfl, h12⟩, ⟨x13, rfl, h13⟩, ⟨x14, rfl, h14⟩, ⟨x15, rfl, h15⟩, ⟨x16, rfl, h16⟩, _⟩ := h
  exact ⟨x0, x1, x2, x3, x4, x5, x6, x7, x8, x9, x10, x11, x12, x13, x14, x15, x16, rfl, wfU64 h5, wfU64 h6, wfU64 h12, wfU64 h14, (wfI64 h2).1, (wfI64 h2).2⟩

/-- a row of packets, cell by cell -/
def flatD (l : List DatP) : List Value := l.flatMap fun d => [.int .u64 d.pn, .int .u64 d.least, .int .u64 d.off, .int .u64 d.x, .int .i64 d.ecn, .slice d.a d.L d.c]
theorem flatD_app (l k : List DatP) : flatD (l ++ k) = flatD l ++ flatD k := by simp [flatD]
theorem flatD_len : ∀ l : List DatP, (flatD l).length = l.length * 6
  | [] => rfl
  | d :: l => by
    have := flatD_len l
    simp only [flatD, List.flatMap_cons, List.length_append, List.length_cons, List.length_nil] at this ⊢
    omega
theorem flatD_one : ∀ (l : List DatP), ∀ u ∈ flatD l, u.oneCell' = true
  | [], u, h => by simp [flatD] at h
  | d :: l, u, h => by
    simp only [flatD, List.flatMap_cons, List.mem_append, List.mem_cons, List.not_mem_nil, or_false] at h
    rcases h with (rfl | rfl | rfl | rfl | rfl | rfl) | h
    iterate 6 (· rfl)
    exact flatD_one l u h
theorem flatD_at : ∀ (l : List DatP) (j : Nat), j < l.length * 6 → (flatD l)[j]? = ([.int .u64 (l.getD (j / 6) zD).pn, .int .u64 (l.getD (j / 6) zD).least, .int .u64 (l.getD (j / 6) zD).off, .int .u64 (l.getD (j / 6) zD).x, .int .i64 (l.getD (j / 6) zD).ecn, .slice (l.getD (j / 6) zD).a (l.getD (j / 6) zD).L (l.getD (j / 6) zD).c] : List Value)[j % 6]?
  | [], j, h => by simp at h
  | d :: l, j, h => by
    have e : flatD (d :: l) = [.int .u64 d.pn, .int .u64 d.least, .int .u64 d.off, .int .u64 d.x, .int .i64 d.ecn, .slice d.a d.L d.c] ++ flatD l := by simp [flatD]
    rw [e]
    by_cases h6 : j < 6
    · rw [List.getElem?_append_left (by simpa using h6), show j / 6 = 0 by omega, show j % 6 = j by omega]
      rfl
    · rw [List.getElem?_append_right (by simp; omega)]
      have := flatD_at l (j - 6) (by simp only [List.length_cons] at h; omega)
      simp only [List.length_cons, List.length_nil]
      rw [this, show j / 6 = (j - 6) / 6 + 1 by omega, show j % 6 = (j - 6) % 6 by omega]
      rfl
theorem CameAt.news {w : World} {g o : Nat} {l : List DatP} (h : CameAt w g o l) (j : Nat) (u : Value) (hu : (flatD l)[j]? = some u) : w.cell? ((⟨g, o, none⟩ : Addr).add j) = some u := by
  have hj : j < l.length * 6 := by
    have := (List.getElem?_eq_some_iff.1 hu).1
    rwa [flatD_len] at this
  rw [flatD_at l j hj] at hu
  obtain ⟨q0, q1, q2, q3, q4, q5⟩ := h.2 (j / 6) (by omega)
  have hm : j % 6 < 6 := Nat.mod_lt _ (by omega)
  have ha : ∀ k, j % 6 = k → (⟨g, o, none⟩ : Addr).add j = ⟨g, o + j / 6 * 6 + k, none⟩ := fun k hk => by
    rw [addr_add]
    congr 1
    omega
  rcases (by omega : j % 6 = 0 ∨ j % 6 = 1 ∨ j % 6 = 2 ∨ j % 6 = 3 ∨ j % 6 = 4 ∨ j % 6 = 5) with e | e | e | e | e | e <;> rw [e] at hu <;> rw [ha _ e] <;> simp only [List.getElem?_cons_zero, List.getElem?_cons_succ, Option.some.injEq] at hu <;> subst hu <;> first | exact q0 | exact q1 | exact q2 | exact q3 | exact q4 | exact q5
theorem CRow.news {w : World} {x : Option Addr} {l : List DatP} (hx : x = none → l = []) (h : CRow w x l) : (x = none ∧ l.length = 0) ∨ ∃ a, x = some a ∧ ∀ j u, (flatD l)[j]? = some u → w.cell? (a.add j) = some u := by
  cases x with
  | none => exact .inl ⟨rfl, by rw [hx rfl]; rfl⟩
  | some a =>
    rcases h with rfl | ⟨g, o, e, k⟩
    · exact .inr ⟨a, rfl, fun j u hu => by simp [flatD] at hu⟩
    · cases e
      exact .inr ⟨_, rfl, CameAt.news k⟩
theorem cameOfOwn {w : World} {B n : Nat} {v : Value} {l : List DatP} (hn : l.length = n) (h : w.ownsRow B 82 6 v n (flatD l)) : ∃ x c, v = .slice x n c ∧ CRow w x l := by
  obtain ⟨hlen, ⟨rfl, h2⟩ | ⟨g, c, cur, rfl, hg, hheap, hc, hm, hcs, htake⟩⟩ := h
  · subst h2
    exact ⟨none, 0, rfl, .inl (List.eq_nil_of_length_eq_zero hn)⟩
  · refine ⟨_, c, rfl, .inr ⟨g, 0, rfl, (Array.getElem?_eq_some_iff.1 hheap).1, fun i hi => ?_⟩⟩
    have hat : ∀ k, k < 6 → w.cell? ⟨g, 0 + i * 6 + k, none⟩ = ([.int .u64 (l.getD i zD).pn, .int .u64 (l.getD i zD).least, .int .u64 (l.getD i zD).off, .int .u64 (l.getD i zD).x, .int .i64 (l.getD i zD).ecn, .slice (l.getD i zD).a (l.getD i zD).L (l.getD i zD).c] : List Value)[k]? := fun k hk => by
      have e1 := flatD_at l (i * 6 + k) (by omega)
      rw [show (i * 6 + k) / 6 = i by omega, show (i * 6 + k) % 6 = k by omega] at e1
      rw [← e1, ← htake, List.getElem?_take, if_pos (by omega), cell_of_row w g _ cur _ _ hheap, Nat.zero_add]
      simp
    exact ⟨hat 0 (by omega), hat 1 (by omega), hat 2 (by omega), hat 3 (by omega), hat 4 (by omega), hat 5 (by omega)⟩

theorem fitApp {l : List DatP} (h : CFit l) : CFit (l ++ l) := fun i hi => by
  rw [List.length_append] at hi
  by_cases h1 : i < l.length
  · rw [List.getD_eq_getElem?_getD, List.getElem?_append_left h1, ← List.getD_eq_getElem?_getD]
    exact h i h1
  · rw [List.getD_eq_getElem?_getD, List.getElem?_append_right (by omega), ← List.getD_eq_getElem?_getD]
    exact h _ (by omega)

set_option maxHeartbeats 8000000 in
theorem walkN (x0 x1 x2 x3 x4 x5 x6 x7 x8 x9 x10 x11 x12 x13 x14 x15 x16 y0 y1 y2 y3 y4 y5 y6 y7 y8 y9 y10 y11 y12 y13 y14 y15 y16 dl : Int) (a0 : Option Addr) (cap0 : Nat) (l : List DatP) (ka : Option Addr) (len cap : Nat) (z : Nat → Int) (R1 R2 R3 : Int) (m : Bool) (w : World)
    (hcap : l.length ≤ cap0) (hc9 : cap0 ≤ 9223372036854775807) (hf : CFit l) (hx : a0 = none → l = []) (hC : CRow w a0 l)
    (hm : (confI x0 x1 x2 x3 x4 x5 x6 x7 x8 x9 x10 x11 x12 x13 x14 x15 x16 == 0) = m) (hmy : (confI y0 y1 y2 y3 y4 y5 y6 y7 y8 y9 y10 y11 y12 y13 y14 y15 y16 == 0) = true) (hr1 : sumC l l.length = R1) (hr2 : mostM m x6 x8 dl = R2) (hr3 : mostM true y6 y8 dl = R3)
    (hx5 : W64 x5) (hx6 : W64 x6) (hy5 : W64 y5) (hy6 : W64 y6) (hd : W64 dl) (hn : Nums w ka len z)
    (HC : Hid (∀ w, Nums w ka len z → Calls Try.prog 16 #[.slice ka len cap] w fun e w' => e = .returned (.agg #[.int .i64 y0, .int .u64 y1, .int .i64 y2, .int .u64 y3, .int .i64 y4, .int .u64 y5, .int .u64 y6, .int .u64 y7, .int .u64 y8, .int .i64 y9, .int .u64 y10, .int .u64 y11, .int .u64 y12, .int .u64 y13, .int .u64 y14, .int .i64 y15, .int .u64 y16]) ∧ Gr w w')) :
    Calls Try.prog 12 #[.slice a0 l.length cap0, .agg #[.int .i64 x0, .int .u64 x1, .int .i64 x2, .int .u64 x3, .int .i64 x4, .int .u64 x5, .int .u64 x6, .int .u64 x7, .int .u64 x8, .int .i64 x9, .int .u64 x10, .int .u64 x11, .int .u64 x12, .int .u64 x13, .int .u64 x14, .int .i64 x15, .int .u64 x16], .slice ka len cap, .int .u64 dl] w fun e w' => e = .returned (.bool true) ∧ Below w.heap.size w w' := by
  obtain ⟨i, hi, hzz, hs, hbb⟩ := info_parts (P := Try.prog) (e := 82) (z := .agg #[.int .u64 0, .int .u64 0, .int .u64 0, .int .u64 0, .int .i64 0, .slice none 0 0]) (size := 6) (bytes := 64) (by kernel_rfl)
  have HM := Lib.hid hm
  have HMY := Lib.hid hmy
  have HR1 := Lib.hid hr1
  have HR2 := Lib.hid hr2
  have HR3 := Lib.hid hr3
  have HX5 := Lib.hid hx5
  have HX6 := Lib.hid hx6
  have HY5 := Lib.hid hy5
  have HY6 := Lib.hid hy6
  have HDL := Lib.hid hd
  have HN := Lib.hid hn
  have HF := Lib.hid hf
  have HX := Lib.hid hx
  have HCR := Lib.hid hC
  have HJB := Lib.hid (fun (h : l.length ≤ 200) W (h1 : CRow W a0 l) => jBytes a0 cap0 l HF.out (by omega) W h1)
  have HQB := Lib.hid (fun (h : l.length ≤ 200) W (h1 : CRow W a0 l) => qBytes a0 cap0 l HF.out (by omega) hcap hc9 W h1)
  have HTB := Lib.hid (fun (h : l.length ≤ 200) (xt : Option Addr) (ct : Nat) W (h1 : CRow W xt (l ++ l)) => jBytes xt ct (l ++ l) (fitApp HF.out) (by rw [List.length_append]; omega) W h1)
  obtain ⟨n, hln⟩ : ∃ n, l.length = n := ⟨_, rfl⟩
  have HLN := Lib.hid hln
  have HR1' := Lib.hid (show sumC (l ++ l) (l ++ l).length = R1 by rw [List.length_append, sumC_twice l l.length (Nat.le_refl _)]; exact HR1.out)
  rw [hln] at hcap HJB HQB hr1 ⊢
  have HRN := Lib.hid hr1
  have HJB : Hid (n ≤ 200 → ∀ W, CRow W a0 l → Calls Try.prog 47 #[.slice a0 n cap0] W fun e w' => e = .returned (.int .u64 R1) ∧ Below W.heap.size W w') := fun h W h1 => by have := HJB.out h W h1; rwa [HRN.out] at this
  have hnI : (n : Int) ≤ (cap0 : Int) := by omega
  have hcI : (cap0 : Int) ≤ 9223372036854775807 := by omega
  clear hm hmy hr1 hr2 hr3 hx5 hx6 hy5 hy6 hd hn hf hx hC hln HR1
  go_enter Try.func12, Try.ntmps12
  go_wp2_with fail
  ((with_reducible refine (HC.out _ (Nums.below HN.out (by repeat (first | with_reducible exact Below.refl _ _ | with_reducible apply below_drewN | with_reducible apply Below.drew | with_reducible refine Below.alloc ?_ (by first | exact Nat.le_refl _ | (simp; done) | (simp; omega)) _)))).mono ?_); rintro e' w1 ⟨rfl, g1⟩)
  have b1 := (show Below w.heap.size w _ from (by repeat (first | with_reducible exact Below.refl _ _ | with_reducible apply below_drewN | with_reducible apply Below.drew | with_reducible refine Below.alloc ?_ (by first | exact Nat.le_refl _ | (simp; done) | (simp; omega)) _))).trans (g1.below.mono (by simp))
  have r0 : RowIs w1 w.heap.size 24 #[.int .i64 x0, .int .u64 x1, .int .i64 x2, .int .u64 x3, .int .i64 x4, .int .u64 x5, .int .u64 x6, .int .u64 x7, .int .u64 x8, .int .i64 x9, .int .u64 x10, .int .u64 x11, .int .u64 x12, .int .u64 x13, .int .u64 x14, .int .i64 x15, .int .u64 x16] := RowIs.gr (RowIs.mk (heap_alloc_new w _)) g1
  clear g1 HC HN
  go_wp2_with (first | (refine wpList_load_all (by rfl) 24 _ rfl _ rfl _ _ _ _ (by repeat (first | (with_reducible exact RowIs.un r0) | (with_reducible exact RowIs.un r1) | (with_reducible exact RowIs.un r2) | (with_reducible exact RowIs.un r3) | (with_reducible exact RowIs.un r4) | (with_reducible refine heap_newS _ _ _ ?_; (first | (simp; done) | (simp; omega))) | with_reducible apply heap_gwS | with_reducible apply heap_drewNS | with_reducible apply heap_drewS | with_reducible apply heap_allocS)) Try.underlying24 rfl (by kernel_rfl) ?_) | (refine wpList_load_all (by rfl) 31 _ rfl _ rfl _ _ _ _ (by repeat (first | (with_reducible exact RowIs.un r0) | (with_reducible exact RowIs.un r1) | (with_reducible exact RowIs.un r2) | (with_reducible exact RowIs.un r3) | (with_reducible exact RowIs.un r4) | (with_reducible refine heap_newS _ _ _ ?_; (first | (simp; done) | (simp; omega))) | with_reducible apply heap_gwS | with_reducible apply heap_drewNS | with_reducible apply heap_drewS | with_reducible apply heap_allocS)) Try.underlying31 rfl (by kernel_rfl) ?_) | (refine wpList_store_newD rfl 24 _ _ rfl _ _ rfl rfl _ _ _ _ (by with_reducible rfl) (by first | (simp; done) | (simp; omega)) (by kernel_rfl) rfl (by first | kernel_rfl | simp [Value.oneCell'] | rfl) ?_) | (refine wpList_store_new rfl 24 _ _ rfl _ _ rfl rfl _ _ _ (by with_reducible rfl) (by first | (simp; done) | (simp; omega)) (by kernel_rfl) rfl (by first | kernel_rfl | simp [Value.oneCell'] | rfl) ?_) | (refine wpList_store_newD rfl 31 _ _ rfl _ _ rfl rfl _ _ _ _ (by with_reducible rfl) (by first | (simp; done) | (simp; omega)) (by kernel_rfl) rfl (by first | kernel_rfl | simp [Value.oneCell'] | rfl) ?_) | (refine wpList_store_new rfl 31 _ _ rfl _ _ rfl rfl _ _ _ (by with_reducible rfl) (by first | (simp; done) | (simp; omega)) (by kernel_rfl) rfl (by first | kernel_rfl | simp [Value.oneCell'] | rfl) ?_))
  ((with_reducible refine (aliveJ _).mono ?_); rintro e' w2 ⟨rfl, b2⟩)
  have r1 : RowIs w2 w1.heap.size 24 #[.int .i64 y0, .int .u64 y1, .int .i64 y2, .int .u64 y3, .int .i64 y4, .int .u64 y5, .int .u64 y6, .int .u64 y7, .int .u64 y8, .int .i64 y9, .int .u64 y10, .int .u64 y11, .int .u64 y12, .int .u64 y13, .int .u64 y14, .int .i64 y15, .int .u64 y16] := RowIs.bel (RowIs.mk (by repeat (first | (with_reducible exact RowIs.un r0) | (with_reducible exact RowIs.un r1) | (with_reducible exact RowIs.un r2) | (with_reducible exact RowIs.un r3) | (with_reducible exact RowIs.un r4) | (with_reducible refine heap_newS _ _ _ ?_; (first | (simp; done) | (simp; omega))) | with_reducible apply heap_gwS | with_reducible apply heap_drewNS | with_reducible apply heap_drewS | with_reducible apply heap_allocS))) b2
  have r0 : RowIs w2 w.heap.size 24 #[.int .i64 x0, .int .u64 x1, .int .i64 x2, .int .u64 x3, .int .i64 x4, .int .u64 x5, .int .u64 x6, .int .u64 x7, .int .u64 x8, .int .i64 x9, .int .u64 x10, .int .u64 x11, .int .u64 x12, .int .u64 x13, .int .u64 x14, .int .i64 x15, .int .u64 x16] := RowIs.bel (RowIs.mk (by repeat (first | (with_reducible exact RowIs.un r0) | (with_reducible exact RowIs.un r1) | (with_reducible exact RowIs.un r2) | (with_reducible exact RowIs.un r3) | (with_reducible exact RowIs.un r4) | (with_reducible refine heap_newS _ _ _ ?_; (first | (simp; done) | (simp; omega))) | with_reducible apply heap_gwS | with_reducible apply heap_drewNS | with_reducible apply heap_drewS | with_reducible apply heap_allocS))) b2
  have hA1 := b1.size
  obtain ⟨A1, hA⟩ : ∃ A, A = w1.heap.size := ⟨_, rfl⟩
  rw [← hA] at r1 hA1 ⊢
  have c2 : Below w.heap.size w w2 := (show Below w.heap.size w _ from (by repeat (first | with_reducible exact b1 | with_reducible apply below_drewN | with_reducible apply Below.drew | with_reducible refine Below.alloc ?_ (by have := Below.size b1; first | exact this | (simp; done) | (simp; omega)) _ | with_reducible refine Below.setCell ?_ (by have := Below.size b1; first | exact this | (simp; done) | (simp; omega)) _))).trans (b2.mono (by have := b1.size; simp; omega))
  clear b1 b2 hA
  by_cases hc : 200 < n
  · have d1 : decide ((200 : Int) < (n : Int)) = true := decide_eq_true (by omega)
    have d1' : (200 : Int) < (n : Int) := by omega
    clear hc
    go_wp2_with fail
    ((with_reducible refine (aliveJ _).mono ?_); rintro e' wB ⟨rfl, bB⟩)
    go_wp2_with fail
    go_ret
    exact ⟨rfl, c2.trans (bB.mono c2.size)⟩
  have d1 : decide ((200 : Int) < (n : Int)) = false := decide_eq_false (by omega)
  have d1' : ¬ (200 : Int) < (n : Int) := by omega
  have h200 : n ≤ 200 := by omega
  clear hc
  go_wp2_with fail
  ((with_reducible refine (HJB.out h200 _ (HCR.out.below c2)).mono ?_); rintro e' w3 ⟨rfl, b3⟩)
  have c3 := c2.trans (b3.mono c2.size)
  have A3 := rowsBel2 ⟨r0, r1⟩ b3
  clear r0 r1 c2 b3 HJB
  go_wp2_with (first | (at_builtin; refine wpList_append_any _ rfl (.const (.slice none 0 0)) (.tmp 24) 71 rfl w3.heap.size 82 i (.agg #[.int .u64 0, .int .u64 0, .int .u64 0, .int .u64 0, .int .i64 0, .slice none 0 0]) 6 64 Try.underlying71 hi hzz hs hbb rfl (by decide) (.slice none 0 0) 0 [] rfl (World.ownsRow_nil _ _ _ _) a0 n cap0 (flatD l) rfl (by rw [flatD_len, HLN.out]) (HLN.out ▸ CRow.news HX.out (HCR.out.below c3)) (flatD_one _) (by simp [maxLen]; omega) (by omega) (Nat.le_refl _) ?_; intro v5 w5 own5 hgrow5 hat5; simp only [Nat.zero_add, List.nil_append] at own5) | (at_builtin; refine wpList_append_any _ rfl (.tmp 25) (.tmp 26) 71 rfl w3.heap.size 82 i (.agg #[.int .u64 0, .int .u64 0, .int .u64 0, .int .u64 0, .int .i64 0, .slice none 0 0]) 6 64 Try.underlying71 hi hzz hs hbb rfl (by decide) v5 n (flatD l) rfl own5 a0 n cap0 (flatD l) rfl (by rw [flatD_len, HLN.out]) (HLN.out ▸ CRow.news HX.out (HCR.out.below (c3.trans ((below_grown (Below.refl _ _) hgrow5 (Nat.le_refl _)).mono c3.size)))) (flatD_one _) (by simp [maxLen]; omega) (by omega) hgrow5.size ?_; intro v7 w7 own7 hgrow7 hat7))
  have b5 : Below w3.heap.size w3 w5 := below_grown (Below.refl _ _) hgrow5 (Nat.le_refl _)
  have c5 := c3.trans (b5.mono c3.size)
  have b7 : Below w3.heap.size w3 w7 := below_grownC b5 hgrow7 b5.size (fun k h => (own5.lt k h).1)
  have c7 := c3.trans (b7.mono c3.size)
  obtain ⟨r0, r1⟩ := rowsBel2 A3 b7
  rw [← flatD_app] at own7
  obtain ⟨xt, ct, rfl, hTC⟩ := cameOfOwn (l := l ++ l) (by rw [List.length_append, HLN.out]) own7
  have HTW := Lib.hid hTC
  have HTWC : Hid (∀ W, CRow W xt (l ++ l) → Calls Try.prog 47 #[.slice xt (n + n) ct] W fun e w' => e = .returned (.int .u64 R1) ∧ Below W.heap.size W w') := fun W h => by
    have := HTB.out (by rw [HLN.out]; exact h200) xt ct W h
    rw [HR1'.out, List.length_append, HLN.out] at this
    exact this
  have HCR := Lib.hid (HCR.out.below c7)
  have HQBC : Hid (∀ W, CRow W a0 l → Calls Try.prog 48 #[.slice a0 n cap0] W fun e w' => e = .returned (.int .u64 R1) ∧ Gr W w') := fun W h => by have := HQB.out h200 W h; rwa [HRN.out] at this
  clear own5 own7 hgrow5 hat5 hgrow7 hat7 hTC A3 c3 c5 b5 b7 HTB HQB HR1'
  refine held_absB (S := fun W => RowIs W (w.heap.size) 24 #[.int .i64 x0, .int .u64 x1, .int .i64 x2, .int .u64 x3, .int .i64 x4, .int .u64 x5, .int .u64 x6, .int .u64 x7, .int .u64 x8, .int .i64 x9, .int .u64 x10, .int .u64 x11, .int .u64 x12, .int .u64 x13, .int .u64 x14, .int .i64 x15, .int .u64 x16] ∧ RowIs W (A1) 24 #[.int .i64 y0, .int .u64 y1, .int .i64 y2, .int .u64 y3, .int .i64 y4, .int .u64 y5, .int .u64 y6, .int .u64 y7, .int .u64 y8, .int .i64 y9, .int .u64 y10, .int .u64 y11, .int .u64 y12, .int .u64 y13, .int .u64 y14, .int .i64 y15, .int .u64 y16]) w7 (by kernel_rfl) ⟨r0, r1⟩ (Below.drew (Below.refl _ _)) (fun X AD GX => ?_)
  clear r0 r1
  refine wpAnyH_take (i := 0) (oi := _) (v := .int .u64 R1) rfl (by kernel_rfl) (by kernel_rfl) (by kernel_rfl) (fun _ _ _ h => h) (Or.inl ⟨by rfl, fun W hS => by go_simp⟩) AD ?_
  simp [Act.put]
  refine wpAnyH_take (i := 1) (oi := _) (v := .slice a0 n cap0) rfl (by kernel_rfl) (by kernel_rfl) (by kernel_rfl) (fun _ _ _ h => h) (Or.inl ⟨by rfl, fun W hS => by go_simp⟩) AD ?_
  simp [Act.put]
  refine wpAnyH_ready (rs := [2]) (by kernel_rfl) (by simp) ?_
  refine AllReadyH.cons (o := _) rfl (fun K hK => ?_) AllReadyH.nil
  go_simp
  refine (HQBC.out _ (HCR.out.below GX)).mono ?_; rintro e' wN1 ⟨rfl, gN1⟩
  go_simp
  have gN1 := Gr.below gN1
  have AN1 := rowsBel2 AD gN1
  have GN1 := Below.trans GX (Below.mono gN1 (Below.size GX))
  refine hK.out _ _ AN1 (fun hH => ?_)
  clear hK K hH AD GX gN1
  have AD := AN1; have GX := GN1; clear AN1 GN1
  refine wpAnyH_take (i := 3) (oi := _) (v := .bool true) rfl (by kernel_rfl) (by kernel_rfl) (by kernel_rfl) (fun _ _ _ h => h) (Or.inl ⟨by rfl, fun W hS => by go_simp⟩) AD ?_
  simp [Act.put]
  refine wpAnyH_take (i := 4) (oi := _) (v := .bool true) rfl (by kernel_rfl) (by kernel_rfl) (by kernel_rfl) (fun _ _ _ h => h) (Or.inl ⟨by rfl, fun W hS => by go_simp⟩) AD ?_
  simp [Act.put]
  refine wpAnyH_take (i := 5) (oi := _) (v := .slice xt (n + n) ct) rfl (by kernel_rfl) (by kernel_rfl) (by kernel_rfl) (fun _ _ _ h => h) (Or.inl ⟨by rfl, fun W hS => by go_simp⟩) AD ?_
  simp [Act.put]
  refine wpAnyH_take (i := 7) (oi := _) (v := .int .u64 R1) rfl (by kernel_rfl) (by kernel_rfl) (by kernel_rfl) (fun _ _ _ h => h) (Or.inl ⟨by rfl, fun W hS => by go_simp⟩) AD ?_
  simp [Act.put]
  refine wpAnyH_ready (rs := [6]) (by kernel_rfl) (by simp) ?_
  refine AllReadyH.cons (o := _) rfl (fun K hK => ?_) AllReadyH.nil
  go_simp
  refine (HTWC.out _ (HTW.out.below GX)).mono ?_; rintro e' wN2 ⟨rfl, gN2⟩
  go_simp
  have AN2 := rowsBel2 AD gN2
  have GN2 := Below.trans GX (Below.mono gN2 (Below.size GX))
  refine hK.out _ _ AN2 (fun hH => ?_)
  clear hK K hH AD GX gN2
  have AD := AN2; have GX := GN2; clear AN2 GN2
  refine wpAnyH_take (i := 8) (oi := _) (v := .bool true) rfl (by kernel_rfl) (by kernel_rfl) (by kernel_rfl) (fun _ _ _ h => h) (Or.inl ⟨by rfl, fun W hS => by go_simp⟩) AD ?_
  simp [Act.put]
  refine wpAnyH_take (i := 9) (oi := _) (v := .bool true) rfl (by kernel_rfl) (by kernel_rfl) (by kernel_rfl) (fun _ _ _ h => h) (Or.inl ⟨by rfl, fun W hS => by go_simp⟩) AD ?_
  simp [Act.put]
  refine wpAnyH_take (i := 10) (oi := _) (v := .bool true) rfl (by kernel_rfl) (by kernel_rfl) (by kernel_rfl) (fun _ _ _ h => h) (Or.inl ⟨by rfl, fun W hS => by go_simp⟩) AD ?_
  simp [Act.put]
  refine wpAnyH_take (i := 11) (oi := _) (v := .agg #[.int .i64 x0, .int .u64 x1, .int .i64 x2, .int .u64 x3, .int .i64 x4, .int .u64 x5, .int .u64 x6, .int .u64 x7, .int .u64 x8, .int .i64 x9, .int .u64 x10, .int .u64 x11, .int .u64 x12, .int .u64 x13, .int .u64 x14, .int .i64 x15, .int .u64 x16]) rfl (by kernel_rfl) (by kernel_rfl) (by kernel_rfl) (fun _ _ _ h => h) (Or.inl ⟨by rfl, fun W hS => by exact exec_load_row _ _ rfl _ rfl _ _ _ _ (hS.1) rfl rfl (by kernel_rfl)⟩) AD ?_
  simp [Act.put]
  refine wpAnyH_take (i := 12) (oi := _) (v := .int .u64 dl) rfl (by kernel_rfl) (by kernel_rfl) (by kernel_rfl) (fun _ _ _ h => h) (Or.inl ⟨by rfl, fun W hS => by go_simp⟩) AD ?_
  simp [Act.put]
  refine wpAnyH_take (i := 14) (oi := _) (v := .agg #[.int .i64 x0, .int .u64 x1, .int .i64 x2, .int .u64 x3, .int .i64 x4, .int .u64 x5, .int .u64 x6, .int .u64 x7, .int .u64 x8, .int .i64 x9, .int .u64 x10, .int .u64 x11, .int .u64 x12, .int .u64 x13, .int .u64 x14, .int .i64 x15, .int .u64 x16]) rfl (by kernel_rfl) (by kernel_rfl) (by kernel_rfl) (fun _ _ _ h => h) (Or.inl ⟨by rfl, fun W hS => by exact exec_load_row _ _ rfl _ rfl _ _ _ _ (hS.1) rfl rfl (by kernel_rfl)⟩) AD ?_
  simp [Act.put]
  refine wpAnyH_take (i := 15) (oi := _) (v := .int .u64 dl) rfl (by kernel_rfl) (by kernel_rfl) (by kernel_rfl) (fun _ _ _ h => h) (Or.inl ⟨by rfl, fun W hS => by go_simp⟩) AD ?_
  simp [Act.put]
  refine wpAnyH_ready (rs := [13]) (by kernel_rfl) (by simp) ?_
  refine AllReadyH.cons (o := _) rfl (fun K hK => ?_) AllReadyH.nil
  go_simp
  refine (jMost x0 x1 x2 x3 x4 x5 x6 x7 x8 x9 x10 x11 x12 x13 x14 x15 x16 dl m R2 HM.out HR2.out HX5.out HX6.out HDL.out _).mono ?_; rintro e' wN3 ⟨rfl, gN3⟩
  go_simp
  have gN3 := Gr.below gN3
  have AN3 := rowsBel2 AD gN3
  have GN3 := Below.trans GX (Below.mono gN3 (Below.size GX))
  refine hK.out _ _ AN3 (fun hH => ?_)
  clear hK K hH AD GX gN3
  have AD := AN3; have GX := GN3; clear AN3 GN3
  refine wpAnyH_ready (rs := [16]) (by kernel_rfl) (by simp) ?_
  refine AllReadyH.cons (o := _) rfl (fun K hK => ?_) AllReadyH.nil
  go_simp
  refine (qMost x0 x1 x2 x3 x4 x5 x6 x7 x8 x9 x10 x11 x12 x13 x14 x15 x16 dl m R2 HM.out HR2.out HX5.out HX6.out HDL.out _).mono ?_; rintro e' wN4 ⟨rfl, gN4⟩
  go_simp
  have gN4 := Gr.below gN4
  have AN4 := rowsBel2 AD gN4
  have GN4 := Below.trans GX (Below.mono gN4 (Below.size GX))
  refine hK.out _ _ AN4 (fun hH => ?_)
  clear hK K hH AD GX gN4
  have AD := AN4; have GX := GN4; clear AN4 GN4
  refine wpAnyH_take (i := 17) (oi := _) (v := .bool true) rfl (by kernel_rfl) (by kernel_rfl) (by kernel_rfl) (fun _ _ _ h => h) (Or.inl ⟨by rfl, fun W hS => by go_simp⟩) AD ?_
  simp [Act.put]
  refine wpAnyH_take (i := 18) (oi := _) (v := .bool true) rfl (by kernel_rfl) (by kernel_rfl) (by kernel_rfl) (fun _ _ _ h => h) (Or.inl ⟨by rfl, fun W hS => by go_simp⟩) AD ?_
  simp [Act.put]
  refine wpAnyH_take (i := 19) (oi := _) (v := .bool true) rfl (by kernel_rfl) (by kernel_rfl) (by kernel_rfl) (fun _ _ _ h => h) (Or.inl ⟨by rfl, fun W hS => by go_simp⟩) AD ?_
  simp [Act.put]
  refine wpAnyH_take (i := 20) (oi := _) (v := .agg #[.int .i64 y0, .int .u64 y1, .int .i64 y2, .int .u64 y3, .int .i64 y4, .int .u64 y5, .int .u64 y6, .int .u64 y7, .int .u64 y8, .int .i64 y9, .int .u64 y10, .int .u64 y11, .int .u64 y12, .int .u64 y13, .int .u64 y14, .int .i64 y15, .int .u64 y16]) rfl (by kernel_rfl) (by kernel_rfl) (by kernel_rfl) (fun _ _ _ h => h) (Or.inl ⟨by rfl, fun W hS => by exact exec_load_row _ _ rfl _ rfl _ _ _ _ (hS.2) rfl rfl (by kernel_rfl)⟩) AD ?_
  simp [Act.put]
  refine wpAnyH_take (i := 21) (oi := _) (v := .int .u64 dl) rfl (by kernel_rfl) (by kernel_rfl) (by kernel_rfl) (fun _ _ _ h => h) (Or.inl ⟨by rfl, fun W hS => by go_simp⟩) AD ?_
  simp [Act.put]
  refine wpAnyH_take (i := 23) (oi := _) (v := .agg #[.int .i64 y0, .int .u64 y1, .int .i64 y2, .int .u64 y3, .int .i64 y4, .int .u64 y5, .int .u64 y6, .int .u64 y7, .int .u64 y8, .int .i64 y9, .int .u64 y10, .int .u64 y11, .int .u64 y12, .int .u64 y13, .int .u64 y14, .int .i64 y15, .int .u64 y16]) rfl (by kernel_rfl) (by kernel_rfl) (by kernel_rfl) (fun _ _ _ h => h) (Or.inl ⟨by rfl, fun W hS => by exact exec_load_row _ _ rfl _ rfl _ _ _ _ (hS.2) rfl rfl (by kernel_rfl)⟩) AD ?_
  simp [Act.put]
  refine wpAnyH_take (i := 24) (oi := _) (v := .int .u64 dl) rfl (by kernel_rfl) (by kernel_rfl) (by kernel_rfl) (fun _ _ _ h => h) (Or.inl ⟨by rfl, fun W hS => by go_simp⟩) AD ?_
  simp [Act.put]
  refine wpAnyH_ready (rs := [22]) (by kernel_rfl) (by simp) ?_
  refine AllReadyH.cons (o := _) rfl (fun K hK => ?_) AllReadyH.nil
  go_simp
  refine (jMost y0 y1 y2 y3 y4 y5 y6 y7 y8 y9 y10 y11 y12 y13 y14 y15 y16 dl true R3 HMY.out HR3.out HY5.out HY6.out HDL.out _).mono ?_; rintro e' wN5 ⟨rfl, gN5⟩
  go_simp
  have gN5 := Gr.below gN5
  have AN5 := rowsBel2 AD gN5
  have GN5 := Below.trans GX (Below.mono gN5 (Below.size GX))
  refine hK.out _ _ AN5 (fun hH => ?_)
  clear hK K hH AD GX gN5
  have AD := AN5; have GX := GN5; clear AN5 GN5
  refine wpAnyH_ready (rs := [25]) (by kernel_rfl) (by simp) ?_
  refine AllReadyH.cons (o := _) rfl (fun K hK => ?_) AllReadyH.nil
  go_simp
  refine (qMost y0 y1 y2 y3 y4 y5 y6 y7 y8 y9 y10 y11 y12 y13 y14 y15 y16 dl true R3 HMY.out HR3.out HY5.out HY6.out HDL.out _).mono ?_; rintro e' wN6 ⟨rfl, gN6⟩
  go_simp
  have gN6 := Gr.below gN6
  have AN6 := rowsBel2 AD gN6
  have GN6 := Below.trans GX (Below.mono gN6 (Below.size GX))
  refine hK.out _ _ AN6 (fun hH => ?_)
  clear hK K hH AD GX gN6
  have AD := AN6; have GX := GN6; clear AN6 GN6
  refine wpAnyH_take (i := 26) (oi := _) (v := .bool true) rfl (by kernel_rfl) (by kernel_rfl) (by kernel_rfl) (fun _ _ _ h => h) (Or.inl ⟨by rfl, fun W hS => by go_simp⟩) AD ?_
  simp [Act.put]
  refine wpAnyH_take (i := 27) (oi := _) (v := .bool true) rfl (by kernel_rfl) (by kernel_rfl) (by kernel_rfl) (fun _ _ _ h => h) (Or.inl ⟨by rfl, fun W hS => by go_simp⟩) AD ?_
  simp [Act.put]
  refine wpAnyH_take (i := 28) (oi := _) (v := .bool true) rfl (by kernel_rfl) (by kernel_rfl) (by kernel_rfl) (fun _ _ _ h => h) (Or.inl ⟨by rfl, fun W hS => by go_simp⟩) AD ?_
  simp [Act.put]
  refine wpAnyH_done (by kernel_rfl) ?_ _
  go_wp2_with fail
  go_ret
  exact ⟨rfl, c7.trans (GX.mono c7.size)⟩

theorem walk (a0 : Option Addr) (len0 cap0 : Nat) (cs1 : Array Value) (a2 : Option Addr) (len2 cap2 : Nat) (z2 : List Int) (dl : Int) (w : World) (w0 : ∃ l : List DatP, l.length = len0 ∧ CFit l ∧ (a0 = none → l = []) ∧ CRow w a0 l ∧ len0 ≤ cap0 ∧ cap0 ≤ 9223372036854775807) (w1 : Fits [some .i64, some .u64, some .i64, some .u64, some .i64, some .u64, some .u64, some .u64, some .u64, some .i64, some .u64, some .u64, some .u64, some .u64, some .u64, some .i64, some .u64] cs1.toList) (w2 : IsRow .u32 w a2 len2 cap2 z2) (w3 : W64 dl) :
    Calls Try.prog 12 #[.slice a0 len0 cap0, .agg cs1, .slice a2 len2 cap2, .int .u64 dl] w fun e w' => e = .returned (.bool true) ∧ Below w.heap.size w w' := by
  obtain ⟨l, rfl, hf, hx, hC, hcap, hc9⟩ := w0
  obtain ⟨x0, x1, x2, x3, x4, x5, x6, x7, x8, x9, x10, x11, x12, x13, x14, x15, x16, rfl, h5, h6, h12, h14, h2⟩ := openConfJ w1
  have hnm := nums_of_row w2
  have hma := confI_made (atF len2 (fun i => z2.getD i 0)) (fun i => hnm.atF i)
  have hzc : ∀ w, Nums w a2 len2 (fun i => z2.getD i 0) → _ := fun w h => zConf a2 len2 cap2 (fun i => z2.getD i 0) w h
  have hb : ∀ i, 0 ≤ atF len2 (fun i => z2.getD i 0) i ∧ atF len2 (fun i => z2.getD i 0) i ≤ 4294967295 := fun i => hnm.atF i
  have b0 := hb 0; have b1 := hb 1; have b2 := hb 2
  exact (walkN x0 x1 x2 x3 x4 x5 x6 x7 x8 x9 x10 x11 x12 x13 x14 x15 x16 (cf0 (atF len2 (fun i => z2.getD i 0))) (cf1 (atF len2 (fun i => z2.getD i 0))) (cf2 (atF len2 (fun i => z2.getD i 0))) (cf3 (atF len2 (fun i => z2.getD i 0))) (cf4 (atF len2 (fun i => z2.getD i 0))) (cf5 (atF len2 (fun i => z2.getD i 0))) (cf6 (atF len2 (fun i => z2.getD i 0))) (cf7 (atF len2 (fun i => z2.getD i 0))) (cf8 (atF len2 (fun i => z2.getD i 0))) (cf9 (atF len2 (fun i => z2.getD i 0))) (cf10 (atF len2 (fun i => z2.getD i 0))) (cf11 (atF len2 (fun i => z2.getD i 0))) (cf12 (atF len2 (fun i => z2.getD i 0))) (cf13 (atF len2 (fun i => z2.getD i 0))) (cf14 (atF len2 (fun i => z2.getD i 0))) (cf15 (atF len2 (fun i => z2.getD i 0))) (cf16 (atF len2 (fun i => z2.getD i 0))) dl a0 cap0 l a2 len2 cap2 (fun i => z2.getD i 0) _ _ _ _ w hcap hc9 hf hx hC rfl (by rw [hma]; rfl) rfl rfl rfl h5 h6 (by unfold cf5 W64; omega) (by unfold cf6 W64; omega) w3 hnm (Lib.hid hzc)).mono fun _ _ h => ⟨h.1, h.2⟩

/-! ### the row's step -/
set_option maxRecDepth 100000 in
theorem lifted (os : Os) (started : os.Started) (H : Type) (enc : TypeId × Value → H) :
    ReturnsInHanded {} Try.checked os 12 .any (Rows.judgeCountsSpec.pre6 enc Try.prog Try.f12 Rows.judgeCountsRow.domain false) (Rows.judgeCountsSpec.post enc Try.prog Try.f12 false true false false) := by
  refine returnsInHanded_of_change (C := Try.checked) own started (by kernel_rfl) Try.func12
    (ChangeSpec.witness6 (enc := enc) (C := Try.checked) false ⟨#[], #[.slice none 0 0, .agg #[.int .i64 0, .int .u64 0, .int .i64 0, .int .u64 0, .int .i64 0, .int .u64 0, .int .u64 0, .int .u64 0, .int .u64 0, .int .i64 0, .int .u64 0, .int .u64 0, .int .u64 0, .int .u64 0, .int .u64 0, .int .i64 0, .int .u64 0], .slice none 0 0, .int .u64 0], []⟩ 8 (by kernel_rfl) (by kernel_rfl) (by kernel_rfl) (by kernel_rfl)) ?_
  intro W base args ds gs before hval0 hW hcnd _
  have hval : ∀ (j : Nat) t v, Try.f12.params[j]? = some t → args[j]? = some v → Value.okWide Try.prog W .any base t v := hval0
  have hW' := hW
  obtain ⟨p, q, hA0, hV, rfl, hfz, hnd⟩ := hW
  have hA : DataW.TrodAll enc Try.prog W 0 (fun _ => true) true Try.f12.params.toList args.toList ds p := hA0
  rw [Try.params12] at hA hval
  obtain ⟨v0, vs0, d0, ds0, p0, q0, hargs, rfl, rfl, h0, r0⟩ := trodAll_cons hA
  obtain ⟨v1, vs1, d1, ds1, p1, q1, rfl, rfl, rfl, h1, r1⟩ := trodAll_cons r0
  obtain ⟨v2, vs2, d2, ds2, p2, q2, rfl, rfl, rfl, h2, r2⟩ := trodAll_cons r1
  obtain ⟨v3, vs3, d3, ds3, p3, q3, rfl, rfl, rfl, h3, r3⟩ := trodAll_cons r2
  obtain ⟨rfl, rfl, rfl⟩ := trodAll_nil r3
  obtain rfl : args = #[v0, v1, v2, v3] := by cases args; simp_all
  obtain ⟨rfl, rfl⟩ := trodVars_none hV
  obtain ⟨a0, len0, cap0, rfl⟩ := okWide_slice Try.underlying71 (hval 0 71 v0 rfl rfl)
  have k0 := h0
  have lt0 : ∀ x ∈ p0, x.block < W.heap.size := by obtain ⟨m, hm⟩ := k0; exact DataW.trod_lt m _ _ _ hm
  have w0 : ∃ l : List DatP, l.length = len0 ∧ CFit l ∧ (a0 = none → l = []) ∧ CRow W a0 l ∧ len0 ≤ cap0 ∧ cap0 ≤ 9223372036854775807 := by
    obtain ⟨fuel, hf⟩ := h0
    exact came_of (by simpa [Value.cells] using hf)
  obtain ⟨cs1, rfl, hsz1⟩ := okWide_struct Try.underlying24 (hval 1 24 v1 rfl rfl)
  have k1 := h1
  have lt1 : ∀ x ∈ p1, x.block < W.heap.size := by obtain ⟨m, hm⟩ := k1; exact DataW.trod_lt m _ _ _ hm
  have w1 : Fits [some .i64, some .u64, some .i64, some .u64, some .i64, some .u64, some .u64, some .u64, some .u64, some .i64, some .u64, some .u64, some .u64, some .u64, some .u64, some .i64, some .u64] cs1.toList := by
    obtain ⟨fuel, hf⟩ := h1
    exact fits_of_trod 8 24 _ fuel _ _ (by kernel_rfl) (by simpa [Value.cells] using hf)
  obtain ⟨a2, len2, cap2, rfl⟩ := okWide_slice Try.underlying25 (hval 2 25 v2 rfl rfl)
  have k2 := h2
  have lt2 : ∀ x ∈ p2, x.block < W.heap.size := by obtain ⟨m, hm⟩ := k2; exact DataW.trod_lt m _ _ _ hm
  obtain ⟨z2, w2⟩ : ∃ zs, IsRow .u32 W a2 len2 cap2 zs := by
    obtain ⟨fuel, hf⟩ := h2
    rcases open_ints Try.underlying25 Try.underlying45 (by kernel_rfl) hf with ⟨hcs, _⟩ | ⟨x, l, c, zs, hcs, _, hl, hm, hz, _, hcell, hwz⟩
    · simp [Value.cells] at hcs
      obtain ⟨rfl, rfl, rfl⟩ := hcs
      exact ⟨[], .inl ⟨rfl, rfl, rfl, rfl⟩⟩
    · simp [Value.cells] at hcs
      obtain ⟨rfl, rfl, rfl⟩ := hcs
      exact ⟨zs, .inr ⟨_, rfl, hl, hm, by simpa using hz, hcell, hwz⟩⟩
  obtain ⟨a3, rfl, rfl, rfl, w3⟩ := open_int Try.underlying22 (hval 3 22 v3 rfl rfl) h3
  clear hA0 hval0
  refine (walk a0 len0 cap0 cs1 a2 len2 cap2 z2 a3 W w0 w1 w2 (wfU64 w3)).mono fun e W' ⟨he, bel⟩ => ?_
  subst he
  exact ⟨_, rfl, _, _, _, [], _, [], hW', trodAll_mk1 (shut_bool Try.underlying4 _), (trodAll_cons_mk (Below.trod laidOut (by kernel_rfl) (of_decide_eq_true (by kernel_rfl)) k0 bel lt0) (trodAll_cons_mk (Below.trod laidOut (by kernel_rfl) (of_decide_eq_true (by kernel_rfl)) k1 bel lt1) (trodAll_cons_mk (Below.trod laidOut (by kernel_rfl) (of_decide_eq_true (by kernel_rfl)) k2 bel lt2) (trodAll_cons_mk (shut_int Try.underlying22 w3) trodAll_mk0)))), rfl, bel.frame _, fun h => by cases h⟩

theorem over : Rows.judgeCountsRow.holds Try.pinned (OpenSpec.ofChange Rows.judgeCountsSpec) :=
  OpenClaim.holds_of_wide 12 Try.f12 rfl rfl rfl rfl rfl rfl rfl ⟨rfl, rfl, rfl, rfl, rfl⟩ rfl rfl rfl rfl rfl (by kernel_rfl) Try.func12 (by kernel_rfl)
    (of_decide_eq_true (by kernel_rfl)) (by unfold Func.isWrapper; first | (rw [if_pos (by decide +kernel)]; kernel_rfl) | (rw [if_neg (by decide +kernel)]; exact ⟨rfl, rfl⟩))
    (fun os started H enc _ => lifted os started H enc)

/-- THE STATEMENT -/
theorem proved : Rows.JudgeCountsSaid := over
end Go.Proofs.Ytikkmdbaekdolaa.judgeCounts
