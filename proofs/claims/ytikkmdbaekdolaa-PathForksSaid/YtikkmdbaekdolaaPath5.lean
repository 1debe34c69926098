/- package path: Fork; the reference's SameLists, of two that are alike. -/
import Derived.Test.YtikkmdbaekdolaaPath4
import Derived.Test.YtikkmdbaekdolaaHeadSame
import Derived.Test.YtikkmdbaekdolaaStill
import Derived.Test.YtikkmdbaekdolaaTurn
namespace Go.Proofs.Ytikkmdbaekdolaa
open Go.RowKit Go.Lib
set_option linter.unusedVariables false
set_option maxRecDepth 100000

/-- a list of bytes, as it is read -/
def LstAt (w : World) (x : Option Addr) (L : List (List Int)) : Prop := L = [] ∨ ∃ g o, ∃ us : List Value, x = some ⟨g, o, none⟩ ∧ g < w.heap.size ∧ us.length = L.length ∧ ∀ i, i < L.length → w.cell? ⟨g, o + i, none⟩ = some (us.getD i undef) ∧ BodyAt w (us.getD i undef) (L.getD i [])
theorem LstAt.below {w w' : World} {x : Option Addr} {L : List (List Int)} (h : LstAt w x L) (hb : Below w.heap.size w w') : LstAt w' x L := by
  rcases h with h | ⟨g, o, us, h1, h2, h3, h4⟩
  · exact .inl h
  · exact .inr ⟨g, o, us, h1, Nat.lt_of_lt_of_le h2 hb.size, h3, fun i hi => ⟨(hb.cell (p := ⟨g, o + i, none⟩) h2).trans (h4 i hi).1, (h4 i hi).2.below hb⟩⟩
theorem ListO.lst {w : World} {B : Nat} {ms : Nat → Prop} {v : Value} {L : List (List Int)} (h : ListO w B ms v L) : ∃ x c, v = .slice x L.length c ∧ (L.length : Int) ≤ (c : Int) ∧ (c : Int) ≤ 9223372036854775807 ∧ LstAt w x L := by
  obtain ⟨us, hu, hown, hb, _⟩ := h.own
  rw [hu] at hown
  obtain ⟨hlen, ⟨rfl, h2⟩ | ⟨g, c, cur, rfl, hg, hheap, hc, hm, hcs, htake⟩⟩ := hown
  · rw [h2]
    exact ⟨none, 0, rfl, by omega, by omega, .inl (List.eq_nil_of_length_eq_zero h2)⟩
  · unfold maxLen at hm
    refine ⟨_, c, rfl, by omega, by omega, .inr ⟨g, 0, us, rfl, (Array.getElem?_eq_some_iff.1 hheap).1, hu, fun i hi => ⟨?_, (hb i hi).at⟩⟩⟩
    have e : us[i]? = some (us.getD i undef) := by rw [List.getD_eq_getElem?_getD, List.getElem?_eq_getElem (by omega)]; rfl
    have e2 : cur.toList[i]? = us[i]? := by rw [← htake, List.getElem?_take, if_pos (by omega)]
    rw [cell_of_row w g _ cur _ _ hheap, Nat.zero_add, ← Array.getElem?_toList, e2, e]

theorem wpStill_convAny {ops : Array Oper} {rest : List Oper} {o : Oper} {a : Act} {w : World} {Q : Act → Prop} (hw : Region.wanted o (yielded ops a.tmps) = true) (y : Operand) (ho : o.op = .convert 44 9 y)
    (v : Value) (hy : a.eval y = v) (xs : List Int) (h : BodyAt w v xs)
    (hk : wpStill Try.prog ops w Q rest (a.put o.dst (.string (strOfNums xs)))) : wpStill Try.prog ops w Q (o :: rest) a := by
  have hr : (convert 44 9 v).run Try.prog w = .ok (.string (strOfNums xs)) w := by
    rcases h with ⟨x, c, rfl, _, rfl⟩ | ⟨g, off, c, rfl, h1, h2, h3, hb⟩
    · exact conv_zero w x c
    · exact run_convert_bytes_arg (P := Try.prog) w 44 5 Try.underlying44 Try.underlying5 g off xs.length c xs rfl (fun i hi => hb.2 i hi) 9 Try.underlying9
  unfold wpStill
  rw [hw, if_pos rfl]
  unfold Oper.still execOp
  simp only [ho, hy, hr, Sem.run_bind, Sem.run_pure, Result.andThen_ok, Oper.stillUpon_value]
  exact hk

set_option maxHeartbeats 4000000 in
theorem rSameLists (x y : Option Addr) (cx cy : Nat) (L : List (List Int)) (hl : L.length ≤ 1000000) (hcx : (L.length : Int) ≤ (cx : Int)) (hcy : (L.length : Int) ≤ (cy : Int)) (w : World) (hX : LstAt w x L) (hY : LstAt w y L) :
    Calls Try.prog 27 #[.slice x L.length cx, .slice y L.length cy] w fun e w' => e = .returned (.bool true) ∧ Below w.heap.size w w' := by
  have HX := Lib.hid hX
  have HY := Lib.hid hY
  obtain ⟨n, hn⟩ : ∃ n, L.length = n := ⟨_, rfl⟩
  have HN := Lib.hid hn
  rw [hn] at hl hcx hcy ⊢
  clear hX hY hn
  have hnI : (n : Int) ≤ 1000000 := by omega
  go_enter Try.func27, Try.ntmps27
  go_wp2_with fail
  go_loopw [5] (fun iv wr => ∃ k : Nat, iv = .int .i64 (k : Int) ∧ k ≤ n ∧ Below w.heap.size w wr) (fun iv _ => (n - RowKit.intOf iv).toNat)
  case atStart => exact ⟨0, by first | rfl | simp, by omega, Below.refl _ _⟩
  case round =>
    obtain ⟨k, rfl, hk, hbel⟩ := hrel
    have HB := Lib.hid hbel
    have sW := hbel.size
    clear hbel
    by_cases hlt : k < n
    · have hltI : (k : Int) < (n : Int) := by omega
      have h1 := HX.out.below HB.out
      have h2 := HY.out.below HB.out
      obtain ⟨gx, ox, us, rfl, hgx, hus, hcx'⟩ : ∃ g o, ∃ us : List Value, x = some ⟨g, o, none⟩ ∧ g < wr.heap.size ∧ us.length = L.length ∧ ∀ i, i < L.length → wr.cell? ⟨g, o + i, none⟩ = some (us.getD i undef) ∧ BodyAt wr (us.getD i undef) (L.getD i []) := h1.resolve_left (fun e => by rw [e] at HN; have := HN.out; simp at this; omega)
      obtain ⟨gy, oy, vs, rfl, hgy, hvs, hcy'⟩ : ∃ g o, ∃ us : List Value, y = some ⟨g, o, none⟩ ∧ g < wr.heap.size ∧ us.length = L.length ∧ ∀ i, i < L.length → wr.cell? ⟨g, o + i, none⟩ = some (us.getD i undef) ∧ BodyAt wr (us.getD i undef) (L.getD i []) := h2.resolve_left (fun e => by rw [e] at HN; have := HN.out; simp at this; omega)
      obtain ⟨a1, b1⟩ := hcx' k (by rw [HN.out]; exact hlt)
      obtain ⟨a2, b2⟩ := hcy' k (by rw [HN.out]; exact hlt)
      obtain ⟨x1, c1, e1⟩ := b1.form
      obtain ⟨x2, c2, e2⟩ := b2.form
      rw [e1] at a1 b1
      rw [e2] at a2 b2
      generalize L.getD k [] = bs at a1 a2 b1 b2
      have B1 := Lib.hid b1
      have B2 := Lib.hid b2
      clear h1 h2 hcx' hcy' e1 e2 b1 b2 hus hvs
      go_wp2_with fail
      refine wp_region_still_lit (by kernel_rfl) (by kernel_rfl) ?_
      repeat still_step
      refine wpStill_convAny (by rfl) (.tmp 20) rfl _ rfl bs B1.out ?_
      repeat still_step
      refine wpStill_convAny (by rfl) (.tmp 25) rfl _ rfl bs B2.out ?_
      repeat still_step
      refine wpStill_nil ?_
      go_wp2_with fail
      go_roundw
      case rel => exact ⟨k + 1, by congr 1, by omega, by repeat (first | exact HB.out | apply Below.drew)⟩
      case measure => simp only [RowKit.intOf]; omega
    · have hd : decide ((k : Int) < (n : Int)) = false := by rw [decide_eq_false_iff_not]; omega
      go_wp2_with fail
      go_ret
      exact ⟨rfl, HB.out⟩

theorem ownSrc {w : World} {B n s c : Nat} {e : TypeId} {x : Option Addr} {xs : List Value} (h : w.ownsRow B e s (.slice x n c) n xs) : (x = none ∧ n = 0) ∨ ∃ a, x = some a ∧ ∀ j u, xs[j]? = some u → w.cell? (a.add j) = some u := by
  have h0 := h
  obtain ⟨_, ⟨e1, h2⟩ | ⟨g, c', cur, e1, hg, hheap, hc, hm, hcs, htake⟩⟩ := h
  · injection e1 with e1 e2 e3
    exact .inl ⟨e1, h2⟩
  · injection e1 with e1 e2 e3
    subst e1
    refine .inr ⟨_, rfl, fun j u hu => ?_⟩
    rw [addr_add, cell_of_row w g _ cur _ _ hheap, Nat.zero_add, ← Array.getElem?_toList]
    rw [← htake] at hu
    rw [List.getElem?_take] at hu
    split at hu
    · exact hu
    · cases hu

set_option maxHeartbeats 8000000 in
theorem pFork (ms : Nat → Prop) (P : Nat) (xf : Option Addr) (cf : Nat) (fl : List FateP) (n : Int) (v : Value) (l : List Itm) (hl : l.length ≤ 1000) (hb : fl.length * 16 ≤ 140737488355328) (w : World) (hA : PipeAt w ms P xf cf fl n v l) :
    Calls Try.prog 29 #[.pointer (some ⟨P, 0, none⟩)] w fun e w' => ∃ Q xq cq v' ms', e = .returned (.pointer (some ⟨Q, 0, none⟩)) ∧ Below w.heap.size w w' ∧ w.heap.size ≤ Q ∧ (∀ g, v'.ownBlock = some g → w.heap.size ≤ g) ∧ (∀ g, ms g → ms' g) ∧ (∀ g, ms' g → ms g ∨ w.heap.size ≤ g) ∧ PipeAt w' ms' Q xq cq fl n v' l := by
  obtain ⟨i, hi, hzz, hs, hbb⟩ := info_parts (P := Try.prog) (e := 125) (z := (.agg #[.int .u64 0, .slice none 0 0])) (size := 2) (bytes := 32) (by kernel_rfl)
  have HA := Lib.hid hA
  have HMS := Lib.hid hA.msl
  obtain ⟨xv, cv, rfl, hI⟩ := itOfOwn rfl hA.own
  have hR := hA.row
  have lP := hR.lt
  have p0 := hR.cell 0
  simp at p0
  have HNEW := Lib.hid (pNew ms xf cf fl (fun h => by
    rcases hA.fates with e | ⟨g, o, e, _⟩
    · exact e
    · rw [h] at e; cases e) hb w hA.msl hA.fates)
  obtain ⟨nf, hnf⟩ : ∃ k, fl.length = k := ⟨_, rfl⟩
  have HNF := Lib.hid hnf
  obtain ⟨N, hN⟩ : ∃ k, l.length = k := ⟨_, rfl⟩
  have HN := Lib.hid hN
  have HOW := Lib.hid hA.own
  rw [hnf, hN] at hR
  rw [hnf] at p0 HNEW
  rw [hN] at hl HOW
  clear hA hI hb hnf hN
  go_enter Try.func29, Try.ntmps29
  go_wp2_with fail
  ((with_reducible refine HNEW.out.mono ?_); rintro e' w1 ⟨Q, xq, cq, rfl, b1, hQ, PQ⟩)
  have rP1 := hR.bel b1
  have rQ1 := PQ.row
  rw [HNF.out] at rQ1
  have p1 := rP1.cell 1
  have p2 := rP1.cell 2
  have q1 := rQ1.cell 1
  simp at p1 p2 q1
  have zq := RowIs.fz rQ1 1
  have lP1 := rP1.lt
  have lQ1 := rQ1.lt
  have hQP : Q ≠ P := by omega
  have hPQ : P ≠ Q := by omega
  have HPQ := Lib.hid PQ
  have K1 : Chg (fun _ => False) w w1 := Chg.ofBelow b1
  clear PQ HNEW p0
  have HONE : Hid (∀ u ∈ flatI l, u.oneCell' = true) := fun u hu => by
    obtain ⟨d, hd, hu⟩ := List.mem_flatMap.1 hu
    simp only [List.mem_cons, List.not_mem_nil, or_false] at hu
    rcases hu with rfl | rfl
    · rfl
    · exact (HA.out.its d hd).2.2
  go_wp2_with (at_builtin; refine wpList_append_any _ rfl (.const (.slice none 0 0)) (.tmp 22) 115 rfl w.heap.size 125 i (.agg #[.int .u64 0, .slice none 0 0]) 2 32 Try.underlying115 hi hzz hs hbb rfl (by decide) (.slice none 0 0) 0 [] rfl (World.ownsRow_nil _ _ _ _) xv N cv (flatI l) rfl (by rw [flatI_len, HN.out]) (ownSrc ((K1.trans (Chg.setCell w1 Q 1 (.int .i64 n)) (fun i e => .inr (by omega))).own HOW.out (fun _ _ h => h))) HONE.out (by simp [maxLen]; omega) (by omega) (by simp; omega) ?_; intro v7 w7 own7 hgrow7 hat7; simp only [Nat.zero_add, List.nil_append] at own7; obtain ⟨x7, c7, rfl⟩ := own_slice own7; have rQ7 := (Chg.ofGrown hgrow7).row (rQ1.set1 (.int .i64 n)) (fun e => by cases e); have y2 := rQ7.cell 2; simp at y2; have yz := RowIs.fz rQ7 2; have lQ7 := rQ7.lt)
  go_ret
  obtain ⟨wT, hwT⟩ : ∃ wT, wT = w7.setCell ⟨Q, 2, none⟩ (Value.slice x7 N c7) := ⟨_, rfl⟩
  have K7 : Chg (fun i => i = Q) w1 w7 := (Chg.setCell w1 Q 1 (.int .i64 n)).trans (Chg.ofGrown hgrow7) (fun i e => by cases e)
  have KT : Chg (fun i => i = Q) w1 wT := by rw [hwT]; exact K7.trans (Chg.setCell _ _ _ _) (fun i h => .inl h)
  have rT : RowIs wT Q 117 #[.slice xq nf cq, .int .i64 n, (Value.slice x7 N c7)] := by rw [hwT]; exact heap_set_self w7 Q 2 _ _ _ _ rQ7
  have hv7 : ∀ g, (Value.slice x7 N c7).ownBlock = some g → g = w1.heap.size ∧ g < w7.heap.size := fun g e => by
    have hl7 := (own7.lt g e).2
    rcases hat7 with h | h
    · rw [h] at e; cases e
    · rw [h] at e
      simp at e
      exact ⟨e.symm, hl7⟩
  have s1 := b1.size
  have sT : w7.heap.size ≤ wT.heap.size := by rw [hwT]; simp
  have BT : Below w.heap.size w wT := b1.trans (KT.below s1 (fun i e => by omega))
  have KW : Chg (fun _ => False) w wT := Chg.ofBelow BT
  have own8 := Chg.own (ms := fun i => i = Q) own7 (show Chg (fun i => i = Q) w7 wT by rw [hwT]; exact Chg.setCell _ _ _ _) (fun g e h => by have := (hv7 g e).1; omega)
  try rw [← hwT]
  have key : PipeAt wT (fun g => (ms g ∨ g = Q) ∨ (Value.slice x7 N c7).ownBlock = some g) Q xq cq fl n (Value.slice x7 N c7) l := {
    row := by rw [HNF.out]; exact rT
    mine := .inl (.inr rfl)
    msl := fun g h => by
      rcases h with (h | h) | h
      · exact Nat.lt_of_lt_of_le (HMS.out g h) BT.size
      · rw [h]; exact rT.lt
      · have := (hv7 g h).2; omega
    fates := HPQ.out.fates.chg KT (fun g o _ e h => (HPQ.out.fatesF g o e).2 (.inr h))
    fatesF := fun g o e => ⟨Nat.lt_of_lt_of_le (HPQ.out.fatesF g o e).1 KT.size, fun h => by
      have h1 := HPQ.out.fatesF g o e
      rcases h with h | h
      · exact h1.2 h
      · have := (hv7 g h).1; omega⟩
    own := by rw [HN.out]; exact own_base own8 (Nat.zero_le _)
    vms := fun g e => ⟨.inr e, fun h => by have := (hv7 g e).1; omega⟩
    its := fun d hd => ⟨(HA.out.its d hd).1, (HA.out.its d hd).2.1.chg KW (fun _ _ h => h.elim) (fun i hi h => by
      rcases h with (h | h) | h
      · exact h
      · omega
      · have := (hv7 i h).1; omega), (HA.out.its d hd).2.2⟩ }
  exact ⟨Q, xq, cq, (Value.slice x7 N c7), _, rfl, BT, hQ, fun g e => by have := (hv7 g e).1; omega, fun g h => .inl (.inl h), fun g h => by
    rcases h with (h | h) | h
    · exact .inl h
    · right; omega
    · right; have := (hv7 g h).1; omega, key⟩

end Go.Proofs.Ytikkmdbaekdolaa
