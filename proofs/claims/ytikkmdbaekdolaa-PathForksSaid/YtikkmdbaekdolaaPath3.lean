/- package path: Put. -/
import Derived.Test.YtikkmdbaekdolaaPath2
import Derived.Test.YtikkmdbaekdolaaSat
import Derived.Test.YtikkmdbaekdolaaSetRow
namespace Go.Proofs.Ytikkmdbaekdolaa
open Go.RowKit Go.Lib
set_option linter.unusedVariables false
set_option maxRecDepth 100000

/-- an item, as the document has it -/
def pr (d : Itm) : Int × List Int := (d.at_, d.bs)
def insKS (L : List (Int × List Int)) (a : Int) : Nat → Nat
  | 0 => 0
  | k + 1 => if a < (L.getD k (0, [])).1 then insKS L a k else k + 1
def insS (L : List (Int × List Int)) (x : Int × List Int) : List (Int × List Int) := L.take (insKS L x.1 L.length) ++ x :: L.drop (insKS L x.1 L.length)
theorem insK_same (l : List Itm) (a : Int) : ∀ k, insKS (l.map pr) a k = insK l a k
  | 0 => rfl
  | k + 1 => by
    unfold insKS insK
    rw [insK_same l a k]
    have : ((l.map pr).getD k (0, [])).1 = (l.getD k zI).at_ := by
      rw [List.getD_eq_getElem?_getD, List.getD_eq_getElem?_getD, List.getElem?_map]
      cases l[k]? <;> rfl
    rw [this]
theorem insI_map (l : List Itm) (x : Itm) : (insI l x).map pr = insS (l.map pr) (pr x) := by
  unfold insI insS
  rw [List.length_map, show (pr x).1 = x.at_ from rfl, insK_same, List.map_append, List.map_cons, List.map_take, List.map_drop]
theorem insI_len (l : List Itm) (x : Itm) : (insI l x).length = l.length + 1 := by
  have := insK_le l x.at_ l.length
  unfold insI
  simp
  omega
/-- the bytes of a packet that is marked, of others as they are -/
def markF (bs : List Int) : List Int := if (getF bs).1 = 0 then putD (markD (getF bs).2) else bs
/-- what a way holds behind a datagram that was put, the n-th one -/
def putS (fl : List FateP) (n : Nat) (L : List (Int × List Int)) (now : Int) (bs : List Int) : List (Int × List Int) :=
  let f := fl.getD n zF
  if f.drop = true then L else
    let x : Int × List Int := (addI now f.delay, if f.mark = true then markF bs else bs)
    if f.twice = true then insS (insS L x) x else insS L x

theorem Chg.drewN' {ms : Nat → Prop} {a b : World} (h : Chg ms a b) (n : Nat) : Chg ms a (b.drewN n) := h.trans (Chg.drewN (ms := ms) b n) (fun _ h => .inl h)
theorem Chg.drew' {ms : Nat → Prop} {a b : World} (h : Chg ms a b) : Chg ms a b.drew := h.drewN' 1
theorem Chg.alloc' {ms : Nat → Prop} {a b : World} (h : Chg ms a b) (o : Obj) : Chg ms a (b.alloc o) := h.trans (Chg.alloc (ms := ms) b o) (fun _ h => .inl h)
theorem Chg.set' {ms : Nat → Prop} {a b : World} (h : Chg ms a b) {D : Nat} (hD : ms D ∨ a.heap.size ≤ D) (i : Nat) (u : Value) : Chg ms a (b.setCell ⟨D, i, none⟩ u) := h.trans (Chg.setCell b D i u) (fun k e => by subst e; exact hD)
theorem bodySrc {W : World} {bx : Option Addr} {bl bc : Nat} {bs : List Int} (h : BodyAt W (.slice bx bl bc) bs) : bl = bs.length ∧ ((bx = none ∧ bl = 0) ∨ ∃ a, bx = some a ∧ ∀ j u, (bs.map (.int .u8))[j]? = some u → W.cell? (a.add j) = some u) := by
  rcases h with ⟨x, c, e, _, rfl⟩ | ⟨g, o, c, e, _, _, _, hb⟩
  · cases e
    refine ⟨rfl, ?_⟩
    cases bx with
    | none => exact .inl ⟨rfl, rfl⟩
    | some a => exact .inr ⟨a, rfl, fun j u hu => by simp at hu⟩
  · cases e
    exact ⟨rfl, .inr ⟨_, rfl, fun j u hu => hb.news j u hu⟩⟩
theorem ownNo {ms : Nat → Prop} {B g n c : Nat} (hB : ∀ g, ms g → g < B) (hg : B ≤ g) : ∀ g', (Value.slice (some ⟨g, 0, none⟩) n c).ownBlock = some g' → ¬ ms g' := fun g' e h => by
  simp [Value.ownBlock] at e
  subst e
  have := hB _ h
  omega
/-- bytes of the call's own -/
theorem bodyOfOwn {w : World} {B : Nat} {v : Value} {bs : List Int} {ms : Nat → Prop} (h : w.ownsRow B 5 1 v bs.length (bs.map (.int .u8))) (hB : ∀ g, ms g → g < B) : ∃ x c, v = .slice x bs.length c ∧ BodyF w ms v bs := by
  by_cases h0 : bs = []
  · subst h0
    obtain ⟨_, ⟨rfl, _⟩ | ⟨g, c, cur, rfl, hg, _⟩⟩ := h
    · exact ⟨none, 0, rfl, .inl ⟨none, 0, rfl, fun _ => rfl, rfl⟩, fun h => absurd rfl h⟩
    · exact ⟨_, c, rfl, .inl ⟨_, c, rfl, (fun h => by cases h), rfl⟩, fun h => absurd rfl h⟩
  · have hl : 0 < bs.length := List.length_pos_iff.mpr h0
    obtain ⟨g, c, rfl, hg, hc1, hc2, hb⟩ := ownBytes h hl
    exact ⟨_, c, rfl, .inr ⟨g, 0, c, rfl, hl, hc1, hc2, hb⟩, fun _ => ownNo hB hg⟩
theorem RowIs.far1 {w : World} {g D : Nat} {t : TypeId} {cs : Array Value} (h : RowIs w g t cs) (hne : g ≠ D) {i : Nat} {u : Value} : RowIs (w.setCell ⟨D, i, none⟩ u) g t cs := (Chg.setCell w D i u).row h hne
theorem RowIs.set1 {w : World} {P : Nat} {a b c : Value} {t : TypeId} (h : RowIs w P t #[a, b, c]) (u : Value) : RowIs (w.setCell ⟨P, 1, none⟩ u) P t #[a, u, c] := heap_set_self w P 1 u _ _ _ h
theorem PipeAt.count {w w' : World} {ms : Nat → Prop} {P : Nat} {xf : Option Addr} {cf : Nat} {fl : List FateP} {n n' : Int} {v : Value} {l : List Itm} (h : PipeAt w ms P xf cf fl n v l) (k : Chg (fun i => i = P) w w') (hr : RowIs w' P 117 #[.slice xf fl.length cf, .int .i64 n', v]) : PipeAt w' ms P xf cf fl n' v l where
  row := hr
  mine := h.mine
  msl := fun g hg => Nat.lt_of_lt_of_le (h.msl g hg) k.size
  fates := h.fates.chg k (fun g o _ e hm => (h.fatesF g o e).2 (by rw [hm]; exact h.mine))
  fatesF := fun g o e => ⟨Nat.lt_of_lt_of_le (h.fatesF g o e).1 k.size, (h.fatesF g o e).2⟩
  own := k.own h.own (fun g e => (h.vms g e).2)
  vms := h.vms
  its := fun d hd => ⟨(h.its d hd).1, (h.its d hd).2.1.chg k (fun i _ e => by rw [e]; exact h.mine) (fun _ _ h => h), (h.its d hd).2.2⟩
theorem PipeAt.same {w w' : World} {ms : Nat → Prop} {P : Nat} {xf : Option Addr} {cf : Nat} {fl : List FateP} {n : Int} {v : Value} {l : List Itm} (h : PipeAt w ms P xf cf fl n v l) (k : Chg (fun _ => False) w w') : PipeAt w' ms P xf cf fl n v l :=
  h.chg k (fun h => h) (fun _ _ h => h) (fun _ _ h => h.elim) (fun _ _ h => h) (fun _ h => h) (fun g hg => Nat.lt_of_lt_of_le (h.msl g hg) k.size)

set_option maxHeartbeats 16000000 in
theorem pPut (ms : Nat → Prop) (P : Nat) (xf : Option Addr) (cf : Nat) (fl : List FateP) (n : Nat) (v : Value) (l : List Itm) (bx : Option Addr) (bl bc : Nat) (bs : List Int) (now : Int) (hb : ∀ x ∈ bs, 0 ≤ x ∧ x ≤ 255) (hlen : bs.length ≤ 140737488351232) (hnow : W64 now) (hfl : ∀ d ∈ fl, W64 d.delay) (hfn : fl.length ≤ 9223372036854775807) (hn : n ≤ 1000) (hl : l.length ≤ 990) (w : World)
    (hA : PipeAt w ms P xf cf fl (n : Int) v l) (hB : BodyF w ms (.slice bx bl bc) bs) :
    Calls Try.prog 25 #[.pointer (some ⟨P, 0, none⟩), .slice bx bl bc, .int .u64 now] w fun e w' => e = .returned (.tuple #[]) ∧ ∃ v' l' ms', Chg (fun g => g = P ∨ v.ownBlock = some g) w w' ∧ (∀ g, v'.ownBlock = some g → v.ownBlock = some g ∨ w.heap.size ≤ g) ∧ (∀ g, ms g → ms' g) ∧ (∀ g, ms' g → ms g ∨ w.heap.size ≤ g) ∧ PipeAt w' ms' P xf cf fl ((n : Int) + 1) v' l' ∧ l'.map pr = putS fl n (l.map pr) now bs := by
  obtain ⟨i, hi, hzz, hs, hbb⟩ := info_parts (P := Try.prog) (e := 5) (z := .int .u8 0) (size := 1) (bytes := 1) (by kernel_rfl)
  have HA := Lib.hid hA
  have HB := Lib.hid hB
  have HNOW := Lib.hid hnow
  have HFL := Lib.hid hfl
  have HBY := Lib.hid hb
  have hR := hA.row
  have lP := hR.lt
  have HBL := Lib.hid (bodySrc hB.at).1
  have HBW := Lib.hid (fun W (k : Chg (fun i => i = P) w W) => hB.chg k (fun i _ e => by rw [e]; exact hA.mine) (fun _ _ h => h))
  have HMS := Lib.hid hA.msl
  have hblI : bl ≤ 140737488351232 := by rw [HBL.out]; exact hlen
  have p0 := hR.cell 0
  have p1 := hR.cell 1
  simp at p0 p1
  obtain ⟨nf, hnf⟩ : ∃ k, fl.length = k := ⟨_, rfl⟩
  have HNF := Lib.hid hnf
  rw [hnf] at p0 hR hfn
  have hnI : (n : Int) ≤ 1000 := by omega
  have hnfI : (nf : Int) ≤ 9223372036854775807 := by omega
  have hn0 : (0 : Int) ≤ (n : Int) := by omega
  have hw1 : IntKind.i64.wrap ((n : Int) + 1) = (n : Int) + 1 := by rw [IntKind.wrap_i64]; omega
  clear hA hB hnow hfl hb hnf
  go_enter Try.func25, Try.ntmps25
  have hneF : w.heap.size ≠ P := by omega
  have hvw : Hid (∀ g, v.ownBlock = some g → g < w.heap.size) := fun g e => HMS.out g (HA.out.vms g e).1
  by_cases hlt : n < nf
  · have hltI : (n : Int) < (nf : Int) := by omega
    have hd : decide ((n : Int) < (nf : Int)) = true := decide_eq_true hltI
    obtain ⟨gf, of', hxf, hgf, hfc⟩ : ∃ g o, xf = some ⟨g, o, none⟩ ∧ FAt w g o fl := by
      rcases HA.out.fates with h | h
      · rw [h] at HNF; have := HNF.out; simp at this; omega
      · exact h
    obtain ⟨q0, q1, q2, q3⟩ := hfc n (by rw [HNF.out]; exact hlt)
    have hmem : fl.getD n zF ∈ fl := by rw [List.getD_eq_getElem?_getD, List.getElem?_eq_getElem (by rw [HNF.out]; exact hlt)]; exact List.getElem_mem _
    have HDL : Hid (W64 (fl.getD n zF).delay) := HFL.out _ hmem
    obtain ⟨f, hf⟩ : ∃ f, fl.getD n zF = f := ⟨_, rfl⟩
    have HFE := Lib.hid hf
    rw [hf] at q0 q1 q2 q3 HDL
    obtain ⟨dr, tw, mk, dl⟩ := f
    simp only at q0 q1 q2 q3 HDL
    have hgF : gf ≠ w.heap.size := by omega
    have HXF := Lib.hid hxf
    clear hmem hf hfc hxf
    go_wp2_with fail
    go_quiet (fail)
    obtain ⟨w2, hw2⟩ : ∃ w2, w2 = (w.alloc (.cells #[.bool false, .bool false, .bool false, .int .u64 0] 119 (0, 0))).drewN nq := ⟨_, rfl⟩
    have r2 : RowIs w2 w.heap.size 119 #[.bool false, .bool false, .bool false, .int .u64 0] := by rw [hw2]; exact RowIs.mk (heap_alloc_new w _)
    have b2 : Below w.heap.size w w2 := by rw [hw2]; exact Gr.below (Gr.drewN (Gr.alloc (Gr.refl _) _) _)
    have K2 : Chg (fun _ => False) w w2 := Chg.ofBelow b2
    have rP2 := K2.row hR (fun h => h)
    have p0 := rP2.cell 0
    have p1 := rP2.cell 1
    simp at p0 p1
    rw [HXF.out] at p0
    have q0 : w2.cell? ⟨gf, of' + n * 4, none⟩ = some (.bool dr) := (K2.cell hgf (fun h => h)).trans q0
    have q1 : w2.cell? ⟨gf, of' + n * 4 + 1, none⟩ = some (.bool tw) := (K2.cell hgf (fun h => h)).trans q1
    have q2 : w2.cell? ⟨gf, of' + n * 4 + 2, none⟩ = some (.bool mk) := (K2.cell hgf (fun h => h)).trans q2
    have q3 : w2.cell? ⟨gf, of' + n * 4 + 3, none⟩ = some (.int .u64 dl) := (K2.cell hgf (fun h => h)).trans q3
    have lP2 := rP2.lt
    have hgf2 : gf < w2.heap.size := Nat.lt_of_lt_of_le hgf K2.size
    rw [← hw2]
    clear hw2
    go_wp2_with fail
    refine region_tail 10 (by kernel_rfl) (by kernel_rfl) ?_
    simp only [List.take_succ_cons, List.take_zero, List.drop_succ_cons, List.drop_zero]
    repeat still_step
    refine wpStill_nil ?_
    refine wpList_store_abs rfl 119 _ _ rfl _ _ rfl rfl _ _ r2.drew (by kernel_rfl) rfl (by first | kernel_rfl | rfl | simp [Value.oneCell']) ?_
    intro wA ST
    have rFA := ST.row
    have KA : Chg (fun _ => False) w wA := Chg.ofBelow (ST.below b2.drew (Nat.le_refl _))
    clear ST r2 b2 K2 rP2 p0 p1 q0 q1 q2 q3 lP2 hgf2 hgF hgf
    cases dr
    · cases mk
      · cases tw
        · skip
          have rPA : RowIs wA P 117 #[.slice xf nf cf, .int .i64 n, v] := KA.row hR (fun h => h)
          have CA : Chg (fun i => i = P) w wA := KA.mono (fun i _ h => h.elim)
          have HMSA : Hid (∀ g, ms g → g < wA.heap.size) := fun g hg => Nat.lt_of_lt_of_le (HMS.out g hg) CA.size
          have fA0 := rFA.cell 0
          have zA := RowIs.fz rPA 1
          have pA1 := rPA.cell 1
          simp at fA0 pA1
          have lPA := rPA.lt
          have lFA := rFA.lt
          have hneF' : P ≠ w.heap.size := fun e => hneF e.symm
          skip
          go_wp2_with (at_builtin; (refine wpList_append_any _ rfl (.const (.slice none 0 0)) (.tmp 40) 44 rfl wA.heap.size 5 i (.int .u8 0) 1 1 Try.underlying44 hi hzz hs hbb rfl (by decide) (.slice none 0 0) 0 [] rfl (World.ownsRow_nil _ _ _ _) bx bl bc (bs.map (.int .u8)) rfl (by rw [List.length_map, HBL.out, Nat.mul_one]) (bodySrc (HBW.out _ (CA.trans (Chg.setCell wA P 1 _) (fun _ h => .inl h))).at).2 (oneCell_bytes _) (by simp [maxLen]; omega) (by omega) (by simp) ?_; intro v6 w6 own6 hgrow6 hat6; simp only [Nat.zero_add, List.nil_append] at own6; rw [HBL.out] at own6; obtain ⟨x6, c6, rfl, BF6⟩ := bodyOfOwn (ms := ms) own6 HMSA.out; have rF6 := (Chg.ofGrown hgrow6).row (rFA.far1 hneF) (fun e => by cases e); have rP6 := (Chg.ofGrown hgrow6).row (rPA.set1 _) (fun e => by cases e); have g1 := rF6.cell 1; have g2 := rF6.cell 2; have g3 := rF6.cell 3; simp at g1 g2 g3; have lF6 := rF6.lt))
          have C6 : Chg (fun i => i = P) w w6 := (CA.trans (Chg.setCell wA P 1 _) (fun i e => .inl e)).trans (Chg.ofGrown hgrow6) (fun i e => by cases e)
          have PA6 : PipeAt w6 ms P xf cf fl ((n : Int) + 1) v l := HA.out.count C6 (by rw [HNF.out]; exact rP6)
          clear own6 hgrow6 hat6 rPA rFA fA0 zA pA1 rP6 CA
          ((with_reducible refine (kAfter now dl HNOW.out HDL.out _).mono ?_); rintro e' w' ⟨rfl, rfl⟩)
          go_wp2_with fail
          ((refine (pLay ms P xf cf fl _ v l (addI now dl) x6 _ c6 bs (addI_W _ _ HNOW.out HDL.out) (by omega) _ PA6 BF6).mono ?_); rintro e' w7 ⟨rfl, v7, K7, o7, PA7⟩)
          have rF7 := K7.row rF6 (fun e => by
            rcases e with e | e
            · exact hneF e
            · have := hvw.out _ e
              omega)
          have t1 := rF7.cell 1
          have t3 := rF7.cell 3
          simp at t1 t3
          have lF7 := rF7.lt
          have sX := C6.size
          have vms := HA.out.vms
          have o7' : ∀ g, v7.ownBlock = some g → v.ownBlock = some g ∨ w.heap.size ≤ g := fun g h => (o7 g h).elim .inl (fun h => .inr (by omega))
          have C7 : Chg (fun i => i = P ∨ v.ownBlock = some i) w w7 := (C6.mono (fun i _ e => .inl e)).trans K7 (fun i h => .inl h)
          have up7 : ∀ g, (ms g ∨ v7.ownBlock = some g) → ms g ∨ w.heap.size ≤ g := fun g h => h.elim .inl (fun h => (o7' g h).elim (fun h => .inl (vms g h).1) .inr)
          have eq7 : (insI l ⟨addI now dl, .slice x6 bs.length c6, bs⟩).map pr = insS (l.map pr) (addI now dl, bs) := insI_map l _
          have hmk : Hid ((if false = true then markF bs else bs) = bs) := by show _ = _; rfl
          go_wp2_with fail
          first | go_end0 | refine bodyPost_ret (results_none rfl _ _ _) rfl ?_
          refine ⟨rfl, v7, insI l ⟨addI now dl, .slice x6 bs.length c6, bs⟩, fun g => ms g ∨ v7.ownBlock = some g, C7, o7', fun g h => .inl h, up7, PA7, ?_⟩
          rw [eq7]
          unfold putS
          rw [HFE.out]
          simp only [Bool.false_eq_true, if_false]
        · skip
          have rPA : RowIs wA P 117 #[.slice xf nf cf, .int .i64 n, v] := KA.row hR (fun h => h)
          have CA : Chg (fun i => i = P) w wA := KA.mono (fun i _ h => h.elim)
          have HMSA : Hid (∀ g, ms g → g < wA.heap.size) := fun g hg => Nat.lt_of_lt_of_le (HMS.out g hg) CA.size
          have fA0 := rFA.cell 0
          have zA := RowIs.fz rPA 1
          have pA1 := rPA.cell 1
          simp at fA0 pA1
          have lPA := rPA.lt
          have lFA := rFA.lt
          have hneF' : P ≠ w.heap.size := fun e => hneF e.symm
          skip
          go_wp2_with (at_builtin; (refine wpList_append_any _ rfl (.const (.slice none 0 0)) (.tmp 40) 44 rfl wA.heap.size 5 i (.int .u8 0) 1 1 Try.underlying44 hi hzz hs hbb rfl (by decide) (.slice none 0 0) 0 [] rfl (World.ownsRow_nil _ _ _ _) bx bl bc (bs.map (.int .u8)) rfl (by rw [List.length_map, HBL.out, Nat.mul_one]) (bodySrc (HBW.out _ (CA.trans (Chg.setCell wA P 1 _) (fun _ h => .inl h))).at).2 (oneCell_bytes _) (by simp [maxLen]; omega) (by omega) (by simp) ?_; intro v6 w6 own6 hgrow6 hat6; simp only [Nat.zero_add, List.nil_append] at own6; rw [HBL.out] at own6; obtain ⟨x6, c6, rfl, BF6⟩ := bodyOfOwn (ms := ms) own6 HMSA.out; have rF6 := (Chg.ofGrown hgrow6).row (rFA.far1 hneF) (fun e => by cases e); have rP6 := (Chg.ofGrown hgrow6).row (rPA.set1 _) (fun e => by cases e); have g1 := rF6.cell 1; have g2 := rF6.cell 2; have g3 := rF6.cell 3; simp at g1 g2 g3; have lF6 := rF6.lt))
          have C6 : Chg (fun i => i = P) w w6 := (CA.trans (Chg.setCell wA P 1 _) (fun i e => .inl e)).trans (Chg.ofGrown hgrow6) (fun i e => by cases e)
          have PA6 : PipeAt w6 ms P xf cf fl ((n : Int) + 1) v l := HA.out.count C6 (by rw [HNF.out]; exact rP6)
          clear own6 hgrow6 hat6 rPA rFA fA0 zA pA1 rP6 CA
          ((with_reducible refine (kAfter now dl HNOW.out HDL.out _).mono ?_); rintro e' w' ⟨rfl, rfl⟩)
          go_wp2_with fail
          ((refine (pLay ms P xf cf fl _ v l (addI now dl) x6 _ c6 bs (addI_W _ _ HNOW.out HDL.out) (by omega) _ PA6 BF6).mono ?_); rintro e' w7 ⟨rfl, v7, K7, o7, PA7⟩)
          have rF7 := K7.row rF6 (fun e => by
            rcases e with e | e
            · exact hneF e
            · have := hvw.out _ e
              omega)
          have t1 := rF7.cell 1
          have t3 := rF7.cell 3
          simp at t1 t3
          have lF7 := rF7.lt
          have sX := C6.size
          have vms := HA.out.vms
          have o7' : ∀ g, v7.ownBlock = some g → v.ownBlock = some g ∨ w.heap.size ≤ g := fun g h => (o7 g h).elim .inl (fun h => .inr (by omega))
          have C7 : Chg (fun i => i = P ∨ v.ownBlock = some i) w w7 := (C6.mono (fun i _ e => .inl e)).trans K7 (fun i h => .inl h)
          have up7 : ∀ g, (ms g ∨ v7.ownBlock = some g) → ms g ∨ w.heap.size ≤ g := fun g h => h.elim .inl (fun h => (o7' g h).elim (fun h => .inl (vms g h).1) .inr)
          have eq7 : (insI l ⟨addI now dl, .slice x6 bs.length c6, bs⟩).map pr = insS (l.map pr) (addI now dl, bs) := insI_map l _
          have hmk : Hid ((if false = true then markF bs else bs) = bs) := by show _ = _; rfl
          have BF7 : BodyF w7 (fun g => ms g ∨ v7.ownBlock = some g) (.slice x6 bs.length c6) bs := BodyF.chg BF6 K7 (fun i _ e => by
            rcases e with rfl | e
            · exact HA.out.mine
            · exact (vms i e).1) (fun i hi h => by
            rcases h with h | h
            · exact h
            · rcases o7 i h with h | h
              · exact (vms i h).1
              · omega)
          have hl7 := insI_len l ⟨addI now dl, .slice x6 bs.length c6, bs⟩
          clear eq7
          go_wp2_with fail
          ((with_reducible refine (kAfter now dl HNOW.out HDL.out _).mono ?_); rintro e' w' ⟨rfl, rfl⟩)
          go_wp2_with fail
          ((refine (pLay (fun g => ms g ∨ v7.ownBlock = some g) P xf cf fl _ v7 (insI l ⟨addI now dl, .slice x6 bs.length c6, bs⟩) (addI now dl) x6 _ c6 bs (addI_W _ _ HNOW.out HDL.out) (by omega) _ PA7 BF7).mono ?_); rintro e' w8 ⟨rfl, v8, K8, o8, PA8⟩)
          have s7 := C7.size
          have o8' : ∀ g, v8.ownBlock = some g → v.ownBlock = some g ∨ w.heap.size ≤ g := fun g h => (o8 g h).elim (fun h => o7' g h) (fun h => .inr (by omega))
          have C8 : Chg (fun i => i = P ∨ v.ownBlock = some i) w w8 := C7.trans K8 (fun i h => h.elim (fun h => .inl (.inl h)) (fun h => (o7' i h).elim (fun h => .inl (.inr h)) .inr))
          go_wp2_with fail
          first | go_end0 | refine bodyPost_ret (results_none rfl _ _ _) rfl ?_
          refine ⟨rfl, v8, insI (insI l ⟨addI now dl, .slice x6 bs.length c6, bs⟩) ⟨addI now dl, .slice x6 bs.length c6, bs⟩, fun g => (ms g ∨ v7.ownBlock = some g) ∨ v8.ownBlock = some g, C8, o8', fun g h => .inl (.inl h), fun g h => h.elim (up7 g) (fun h => (o8' g h).elim (fun h => .inl (vms g h).1) .inr), PA8, ?_⟩
          rw [insI_map, insI_map]
          unfold putS
          rw [HFE.out]
          simp only [Bool.false_eq_true, if_false, if_true]
          rfl
      · cases tw
        · skip
          have rPA : RowIs wA P 117 #[.slice xf nf cf, .int .i64 n, v] := KA.row hR (fun h => h)
          have CA : Chg (fun i => i = P) w wA := KA.mono (fun i _ h => h.elim)
          have HMSA : Hid (∀ g, ms g → g < wA.heap.size) := fun g hg => Nat.lt_of_lt_of_le (HMS.out g hg) CA.size
          have fA0 := rFA.cell 0
          have zA := RowIs.fz rPA 1
          have pA1 := rPA.cell 1
          simp at fA0 pA1
          have lPA := rPA.lt
          have lFA := rFA.lt
          have hneF' : P ≠ w.heap.size := fun e => hneF e.symm
          skip
          go_wp2_with (at_builtin; (refine wpList_append_any _ rfl (.const (.slice none 0 0)) (.tmp 40) 44 rfl wA.heap.size 5 i (.int .u8 0) 1 1 Try.underlying44 hi hzz hs hbb rfl (by decide) (.slice none 0 0) 0 [] rfl (World.ownsRow_nil _ _ _ _) bx bl bc (bs.map (.int .u8)) rfl (by rw [List.length_map, HBL.out, Nat.mul_one]) (bodySrc (HBW.out _ (CA.trans (Chg.setCell wA P 1 _) (fun _ h => .inl h))).at).2 (oneCell_bytes _) (by simp [maxLen]; omega) (by omega) (by simp) ?_; intro v6 w6 own6 hgrow6 hat6; simp only [Nat.zero_add, List.nil_append] at own6; rw [HBL.out] at own6; obtain ⟨x6, c6, rfl, BF6⟩ := bodyOfOwn (ms := ms) own6 HMSA.out; have rF6 := (Chg.ofGrown hgrow6).row (rFA.far1 hneF) (fun e => by cases e); have rP6 := (Chg.ofGrown hgrow6).row (rPA.set1 _) (fun e => by cases e); have g1 := rF6.cell 1; have g2 := rF6.cell 2; have g3 := rF6.cell 3; simp at g1 g2 g3; have lF6 := rF6.lt))
          have C6 : Chg (fun i => i = P) w w6 := (CA.trans (Chg.setCell wA P 1 _) (fun i e => .inl e)).trans (Chg.ofGrown hgrow6) (fun i e => by cases e)
          have PA6 : PipeAt w6 ms P xf cf fl ((n : Int) + 1) v l := HA.out.count C6 (by rw [HNF.out]; exact rP6)
          clear own6 hgrow6 hat6 rPA rFA fA0 zA pA1 rP6 CA
          obtain ⟨E, d, hG0⟩ : ∃ E d, getF bs = (E, d) := ⟨_, _, rfl⟩
          have HG0 := Lib.hid hG0
          clear g1 g3
          by_cases hE : E = 0
          · subst hE
            clear hG0
            ((with_reducible refine (hMarkYes _ bs HBY.out hlen _ BF6.at d HG0.out).mono ?_); rintro e' wM ⟨vM, rfl, bM, ownM⟩)
            obtain ⟨xM, cM, rfl, BFM⟩ := bodyOfOwn (ms := ms) ownM (fun g hg => Nat.lt_of_lt_of_le (HMS.out g hg) C6.size)
            have KM : Chg (fun _ => False) w6 wM := Chg.ofBelow bM
            have PAM := PA6.same KM
            have rFM := KM.row rF6 (fun h => h)
            have CM := C6.trans KM (fun i h => h.elim)
            have m1 := rFM.cell 1
            have m3 := rFM.cell 3
            simp at m1 m3
            have lFM := rFM.lt
            have hG0 := HG0.out
            have HGX := Lib.hid hG0
            clear hG0
            go_wp2_with fail
            have hG0 := HGX.out
            ((with_reducible refine (kAfter now dl HNOW.out HDL.out _).mono ?_); rintro e' w' ⟨rfl, rfl⟩)
            go_wp2_with fail
            ((refine (pLay ms P xf cf fl _ v l (addI now dl) xM _ cM (putD (markD d)) (addI_W _ _ HNOW.out HDL.out) (by omega) _ PAM BFM).mono ?_); rintro e' w7 ⟨rfl, v7, K7, o7, PA7⟩)
            have rF7 := K7.row rFM (fun e => by
              rcases e with e | e
              · exact hneF e
              · have := hvw.out _ e
                omega)
            have t1 := rF7.cell 1
            have t3 := rF7.cell 3
            simp at t1 t3
            have lF7 := rF7.lt
            have sX := CM.size
            have vms := HA.out.vms
            have o7' : ∀ g, v7.ownBlock = some g → v.ownBlock = some g ∨ w.heap.size ≤ g := fun g h => (o7 g h).elim .inl (fun h => .inr (by omega))
            have C7 : Chg (fun i => i = P ∨ v.ownBlock = some i) w w7 := (CM.mono (fun i _ e => .inl e)).trans K7 (fun i h => .inl h)
            have up7 : ∀ g, (ms g ∨ v7.ownBlock = some g) → ms g ∨ w.heap.size ≤ g := fun g h => h.elim .inl (fun h => (o7' g h).elim (fun h => .inl (vms g h).1) .inr)
            have eq7 : (insI l ⟨addI now dl, .slice xM (putD (markD d)).length cM, (putD (markD d))⟩).map pr = insS (l.map pr) (addI now dl, (putD (markD d))) := insI_map l _
            have hmk : Hid ((if true = true then markF bs else bs) = (putD (markD d))) := by show _ = _; unfold markF; rw [hG0]; rfl
            go_wp2_with fail
            first | go_end0 | refine bodyPost_ret (results_none rfl _ _ _) rfl ?_
            refine ⟨rfl, v7, insI l ⟨addI now dl, .slice xM (putD (markD d)).length cM, (putD (markD d))⟩, fun g => ms g ∨ v7.ownBlock = some g, C7, o7', fun g h => .inl h, up7, PA7, ?_⟩
            rw [eq7]
            unfold putS
            rw [HFE.out]
            simp only [hmk.out, Bool.false_eq_true, if_false]
          · clear hG0
            ((with_reducible refine (hMarkNo _ bs HBY.out hlen _ BF6.at E d HG0.out hE).mono ?_); rintro e' wM ⟨rfl, bM⟩)
            have KM : Chg (fun _ => False) w6 wM := Chg.ofBelow bM
            have PAM := PA6.same KM
            have rFM := KM.row rF6 (fun h => h)
            have CM := C6.trans KM (fun i h => h.elim)
            have m1 := rFM.cell 1
            have m3 := rFM.cell 3
            simp at m1 m3
            have lFM := rFM.lt
            have BFM : BodyF wM ms (.slice x6 bs.length c6) bs := BF6.chg KM (fun _ _ h => h.elim) (fun _ _ h => h)
            go_wp2_with fail
            have hG0 := HG0.out
            ((with_reducible refine (kAfter now dl HNOW.out HDL.out _).mono ?_); rintro e' w' ⟨rfl, rfl⟩)
            go_wp2_with fail
            ((refine (pLay ms P xf cf fl _ v l (addI now dl) x6 _ c6 bs (addI_W _ _ HNOW.out HDL.out) (by omega) _ PAM BFM).mono ?_); rintro e' w7 ⟨rfl, v7, K7, o7, PA7⟩)
            have rF7 := K7.row rFM (fun e => by
              rcases e with e | e
              · exact hneF e
              · have := hvw.out _ e
                omega)
            have t1 := rF7.cell 1
            have t3 := rF7.cell 3
            simp at t1 t3
            have lF7 := rF7.lt
            have sX := CM.size
            have vms := HA.out.vms
            have o7' : ∀ g, v7.ownBlock = some g → v.ownBlock = some g ∨ w.heap.size ≤ g := fun g h => (o7 g h).elim .inl (fun h => .inr (by omega))
            have C7 : Chg (fun i => i = P ∨ v.ownBlock = some i) w w7 := (CM.mono (fun i _ e => .inl e)).trans K7 (fun i h => .inl h)
            have up7 : ∀ g, (ms g ∨ v7.ownBlock = some g) → ms g ∨ w.heap.size ≤ g := fun g h => h.elim .inl (fun h => (o7' g h).elim (fun h => .inl (vms g h).1) .inr)
            have eq7 : (insI l ⟨addI now dl, .slice x6 bs.length c6, bs⟩).map pr = insS (l.map pr) (addI now dl, bs) := insI_map l _
            have hmk : Hid ((if true = true then markF bs else bs) = bs) := by show _ = _; unfold markF; rw [hG0]; simp [hE]
            go_wp2_with fail
            first | go_end0 | refine bodyPost_ret (results_none rfl _ _ _) rfl ?_
            refine ⟨rfl, v7, insI l ⟨addI now dl, .slice x6 bs.length c6, bs⟩, fun g => ms g ∨ v7.ownBlock = some g, C7, o7', fun g h => .inl h, up7, PA7, ?_⟩
            rw [eq7]
            unfold putS
            rw [HFE.out]
            simp only [hmk.out, Bool.false_eq_true, if_false]
        · skip
          have rPA : RowIs wA P 117 #[.slice xf nf cf, .int .i64 n, v] := KA.row hR (fun h => h)
          have CA : Chg (fun i => i = P) w wA := KA.mono (fun i _ h => h.elim)
          have HMSA : Hid (∀ g, ms g → g < wA.heap.size) := fun g hg => Nat.lt_of_lt_of_le (HMS.out g hg) CA.size
          have fA0 := rFA.cell 0
          have zA := RowIs.fz rPA 1
          have pA1 := rPA.cell 1
          simp at fA0 pA1
          have lPA := rPA.lt
          have lFA := rFA.lt
          have hneF' : P ≠ w.heap.size := fun e => hneF e.symm
          skip
          go_wp2_with (at_builtin; (refine wpList_append_any _ rfl (.const (.slice none 0 0)) (.tmp 40) 44 rfl wA.heap.size 5 i (.int .u8 0) 1 1 Try.underlying44 hi hzz hs hbb rfl (by decide) (.slice none 0 0) 0 [] rfl (World.ownsRow_nil _ _ _ _) bx bl bc (bs.map (.int .u8)) rfl (by rw [List.length_map, HBL.out, Nat.mul_one]) (bodySrc (HBW.out _ (CA.trans (Chg.setCell wA P 1 _) (fun _ h => .inl h))).at).2 (oneCell_bytes _) (by simp [maxLen]; omega) (by omega) (by simp) ?_; intro v6 w6 own6 hgrow6 hat6; simp only [Nat.zero_add, List.nil_append] at own6; rw [HBL.out] at own6; obtain ⟨x6, c6, rfl, BF6⟩ := bodyOfOwn (ms := ms) own6 HMSA.out; have rF6 := (Chg.ofGrown hgrow6).row (rFA.far1 hneF) (fun e => by cases e); have rP6 := (Chg.ofGrown hgrow6).row (rPA.set1 _) (fun e => by cases e); have g1 := rF6.cell 1; have g2 := rF6.cell 2; have g3 := rF6.cell 3; simp at g1 g2 g3; have lF6 := rF6.lt))
          have C6 : Chg (fun i => i = P) w w6 := (CA.trans (Chg.setCell wA P 1 _) (fun i e => .inl e)).trans (Chg.ofGrown hgrow6) (fun i e => by cases e)
          have PA6 : PipeAt w6 ms P xf cf fl ((n : Int) + 1) v l := HA.out.count C6 (by rw [HNF.out]; exact rP6)
          clear own6 hgrow6 hat6 rPA rFA fA0 zA pA1 rP6 CA
          obtain ⟨E, d, hG0⟩ : ∃ E d, getF bs = (E, d) := ⟨_, _, rfl⟩
          have HG0 := Lib.hid hG0
          clear g1 g3
          by_cases hE : E = 0
          · subst hE
            clear hG0
            ((with_reducible refine (hMarkYes _ bs HBY.out hlen _ BF6.at d HG0.out).mono ?_); rintro e' wM ⟨vM, rfl, bM, ownM⟩)
            obtain ⟨xM, cM, rfl, BFM⟩ := bodyOfOwn (ms := ms) ownM (fun g hg => Nat.lt_of_lt_of_le (HMS.out g hg) C6.size)
            have KM : Chg (fun _ => False) w6 wM := Chg.ofBelow bM
            have PAM := PA6.same KM
            have rFM := KM.row rF6 (fun h => h)
            have CM := C6.trans KM (fun i h => h.elim)
            have m1 := rFM.cell 1
            have m3 := rFM.cell 3
            simp at m1 m3
            have lFM := rFM.lt
            have hG0 := HG0.out
            have HGX := Lib.hid hG0
            clear hG0
            go_wp2_with fail
            have hG0 := HGX.out
            ((with_reducible refine (kAfter now dl HNOW.out HDL.out _).mono ?_); rintro e' w' ⟨rfl, rfl⟩)
            go_wp2_with fail
            ((refine (pLay ms P xf cf fl _ v l (addI now dl) xM _ cM (putD (markD d)) (addI_W _ _ HNOW.out HDL.out) (by omega) _ PAM BFM).mono ?_); rintro e' w7 ⟨rfl, v7, K7, o7, PA7⟩)
            have rF7 := K7.row rFM (fun e => by
              rcases e with e | e
              · exact hneF e
              · have := hvw.out _ e
                omega)
            have t1 := rF7.cell 1
            have t3 := rF7.cell 3
            simp at t1 t3
            have lF7 := rF7.lt
            have sX := CM.size
            have vms := HA.out.vms
            have o7' : ∀ g, v7.ownBlock = some g → v.ownBlock = some g ∨ w.heap.size ≤ g := fun g h => (o7 g h).elim .inl (fun h => .inr (by omega))
            have C7 : Chg (fun i => i = P ∨ v.ownBlock = some i) w w7 := (CM.mono (fun i _ e => .inl e)).trans K7 (fun i h => .inl h)
            have up7 : ∀ g, (ms g ∨ v7.ownBlock = some g) → ms g ∨ w.heap.size ≤ g := fun g h => h.elim .inl (fun h => (o7' g h).elim (fun h => .inl (vms g h).1) .inr)
            have eq7 : (insI l ⟨addI now dl, .slice xM (putD (markD d)).length cM, (putD (markD d))⟩).map pr = insS (l.map pr) (addI now dl, (putD (markD d))) := insI_map l _
            have hmk : Hid ((if true = true then markF bs else bs) = (putD (markD d))) := by show _ = _; unfold markF; rw [hG0]; rfl
            have BF7 : BodyF w7 (fun g => ms g ∨ v7.ownBlock = some g) (.slice xM (putD (markD d)).length cM) (putD (markD d)) := BodyF.chg BFM K7 (fun i _ e => by
              rcases e with rfl | e
              · exact HA.out.mine
              · exact (vms i e).1) (fun i hi h => by
              rcases h with h | h
              · exact h
              · rcases o7 i h with h | h
                · exact (vms i h).1
                · omega)
            have hl7 := insI_len l ⟨addI now dl, .slice xM (putD (markD d)).length cM, (putD (markD d))⟩
            clear eq7
            go_wp2_with fail
            ((with_reducible refine (kAfter now dl HNOW.out HDL.out _).mono ?_); rintro e' w' ⟨rfl, rfl⟩)
            go_wp2_with fail
            ((refine (pLay (fun g => ms g ∨ v7.ownBlock = some g) P xf cf fl _ v7 (insI l ⟨addI now dl, .slice xM (putD (markD d)).length cM, (putD (markD d))⟩) (addI now dl) xM _ cM (putD (markD d)) (addI_W _ _ HNOW.out HDL.out) (by omega) _ PA7 BF7).mono ?_); rintro e' w8 ⟨rfl, v8, K8, o8, PA8⟩)
            have s7 := C7.size
            have o8' : ∀ g, v8.ownBlock = some g → v.ownBlock = some g ∨ w.heap.size ≤ g := fun g h => (o8 g h).elim (fun h => o7' g h) (fun h => .inr (by omega))
            have C8 : Chg (fun i => i = P ∨ v.ownBlock = some i) w w8 := C7.trans K8 (fun i h => h.elim (fun h => .inl (.inl h)) (fun h => (o7' i h).elim (fun h => .inl (.inr h)) .inr))
            go_wp2_with fail
            first | go_end0 | refine bodyPost_ret (results_none rfl _ _ _) rfl ?_
            refine ⟨rfl, v8, insI (insI l ⟨addI now dl, .slice xM (putD (markD d)).length cM, (putD (markD d))⟩) ⟨addI now dl, .slice xM (putD (markD d)).length cM, (putD (markD d))⟩, fun g => (ms g ∨ v7.ownBlock = some g) ∨ v8.ownBlock = some g, C8, o8', fun g h => .inl (.inl h), fun g h => h.elim (up7 g) (fun h => (o8' g h).elim (fun h => .inl (vms g h).1) .inr), PA8, ?_⟩
            rw [insI_map, insI_map]
            unfold putS
            rw [HFE.out]
            simp only [hmk.out, Bool.false_eq_true, if_false, if_true]
            rfl
          · clear hG0
            ((with_reducible refine (hMarkNo _ bs HBY.out hlen _ BF6.at E d HG0.out hE).mono ?_); rintro e' wM ⟨rfl, bM⟩)
            have KM : Chg (fun _ => False) w6 wM := Chg.ofBelow bM
            have PAM := PA6.same KM
            have rFM := KM.row rF6 (fun h => h)
            have CM := C6.trans KM (fun i h => h.elim)
            have m1 := rFM.cell 1
            have m3 := rFM.cell 3
            simp at m1 m3
            have lFM := rFM.lt
            have BFM : BodyF wM ms (.slice x6 bs.length c6) bs := BF6.chg KM (fun _ _ h => h.elim) (fun _ _ h => h)
            go_wp2_with fail
            have hG0 := HG0.out
            ((with_reducible refine (kAfter now dl HNOW.out HDL.out _).mono ?_); rintro e' w' ⟨rfl, rfl⟩)
            go_wp2_with fail
            ((refine (pLay ms P xf cf fl _ v l (addI now dl) x6 _ c6 bs (addI_W _ _ HNOW.out HDL.out) (by omega) _ PAM BFM).mono ?_); rintro e' w7 ⟨rfl, v7, K7, o7, PA7⟩)
            have rF7 := K7.row rFM (fun e => by
              rcases e with e | e
              · exact hneF e
              · have := hvw.out _ e
                omega)
            have t1 := rF7.cell 1
            have t3 := rF7.cell 3
            simp at t1 t3
            have lF7 := rF7.lt
            have sX := CM.size
            have vms := HA.out.vms
            have o7' : ∀ g, v7.ownBlock = some g → v.ownBlock = some g ∨ w.heap.size ≤ g := fun g h => (o7 g h).elim .inl (fun h => .inr (by omega))
            have C7 : Chg (fun i => i = P ∨ v.ownBlock = some i) w w7 := (CM.mono (fun i _ e => .inl e)).trans K7 (fun i h => .inl h)
            have up7 : ∀ g, (ms g ∨ v7.ownBlock = some g) → ms g ∨ w.heap.size ≤ g := fun g h => h.elim .inl (fun h => (o7' g h).elim (fun h => .inl (vms g h).1) .inr)
            have eq7 : (insI l ⟨addI now dl, .slice x6 bs.length c6, bs⟩).map pr = insS (l.map pr) (addI now dl, bs) := insI_map l _
            have hmk : Hid ((if true = true then markF bs else bs) = bs) := by show _ = _; unfold markF; rw [hG0]; simp [hE]
            have BF7 : BodyF w7 (fun g => ms g ∨ v7.ownBlock = some g) (.slice x6 bs.length c6) bs := BodyF.chg BFM K7 (fun i _ e => by
              rcases e with rfl | e
              · exact HA.out.mine
              · exact (vms i e).1) (fun i hi h => by
              rcases h with h | h
              · exact h
              · rcases o7 i h with h | h
                · exact (vms i h).1
                · omega)
            have hl7 := insI_len l ⟨addI now dl, .slice x6 bs.length c6, bs⟩
            clear eq7
            go_wp2_with fail
            ((with_reducible refine (kAfter now dl HNOW.out HDL.out _).mono ?_); rintro e' w' ⟨rfl, rfl⟩)
            go_wp2_with fail
            ((refine (pLay (fun g => ms g ∨ v7.ownBlock = some g) P xf cf fl _ v7 (insI l ⟨addI now dl, .slice x6 bs.length c6, bs⟩) (addI now dl) x6 _ c6 bs (addI_W _ _ HNOW.out HDL.out) (by omega) _ PA7 BF7).mono ?_); rintro e' w8 ⟨rfl, v8, K8, o8, PA8⟩)
            have s7 := C7.size
            have o8' : ∀ g, v8.ownBlock = some g → v.ownBlock = some g ∨ w.heap.size ≤ g := fun g h => (o8 g h).elim (fun h => o7' g h) (fun h => .inr (by omega))
            have C8 : Chg (fun i => i = P ∨ v.ownBlock = some i) w w8 := C7.trans K8 (fun i h => h.elim (fun h => .inl (.inl h)) (fun h => (o7' i h).elim (fun h => .inl (.inr h)) .inr))
            go_wp2_with fail
            first | go_end0 | refine bodyPost_ret (results_none rfl _ _ _) rfl ?_
            refine ⟨rfl, v8, insI (insI l ⟨addI now dl, .slice x6 bs.length c6, bs⟩) ⟨addI now dl, .slice x6 bs.length c6, bs⟩, fun g => (ms g ∨ v7.ownBlock = some g) ∨ v8.ownBlock = some g, C8, o8', fun g h => .inl (.inl h), fun g h => h.elim (up7 g) (fun h => (o8' g h).elim (fun h => .inl (vms g h).1) .inr), PA8, ?_⟩
            rw [insI_map, insI_map]
            unfold putS
            rw [HFE.out]
            simp only [hmk.out, Bool.false_eq_true, if_false, if_true]
            rfl
    · skip
      have rPA : RowIs wA P 117 #[.slice xf nf cf, .int .i64 n, v] := KA.row hR (fun h => h)
      have CA : Chg (fun i => i = P) w wA := KA.mono (fun i _ h => h.elim)
      have HMSA : Hid (∀ g, ms g → g < wA.heap.size) := fun g hg => Nat.lt_of_lt_of_le (HMS.out g hg) CA.size
      have fA0 := rFA.cell 0
      have zA := RowIs.fz rPA 1
      have pA1 := rPA.cell 1
      simp at fA0 pA1
      have lPA := rPA.lt
      have lFA := rFA.lt
      have hneF' : P ≠ w.heap.size := fun e => hneF e.symm
      skip
      go_wp2_with fail
      first | go_end0 | refine bodyPost_ret (results_none rfl _ _ _) rfl ?_
      have CB := CA.trans (Chg.setCell wA P 1 (.int .i64 ((n : Int) + 1))) (fun i e => .inl e)
      refine ⟨rfl, v, l, ms, CB.mono (fun i _ e => .inl e), fun g h => .inl h, fun g h => h, fun g h => .inl h, HA.out.count CB (by rw [HNF.out]; exact rPA.set1 _), ?_⟩
      unfold putS
      rw [HFE.out]
      rfl
  · have hltI : ¬ (n : Int) < (nf : Int) := by omega
    have hd : decide ((n : Int) < (nf : Int)) = false := decide_eq_false hltI
    have HFE : Hid (fl.getD n zF = ⟨false, false, false, 0⟩) := by
      show _ = _
      rw [List.getD_eq_getElem?_getD, List.getElem?_eq_none (by rw [HNF.out]; omega)]
      rfl
    have HDL : Hid (W64 0) := Wlit (by omega)
    go_wp2_with fail
    go_quiet (fail)
    obtain ⟨wA, hwA⟩ : ∃ wA, wA = (w.alloc (.cells #[.bool false, .bool false, .bool false, .int .u64 0] 119 (0, 0))).drewN nq := ⟨_, rfl⟩
    have rFA : RowIs wA w.heap.size 119 #[.bool false, .bool false, .bool false, .int .u64 0] := by rw [hwA]; exact RowIs.mk (heap_alloc_new w _)
    have KA : Chg (fun _ => False) w wA := by rw [hwA]; exact ((Chg.refl _ _).alloc' _).drewN' _
    rw [← hwA]
    have rPA : RowIs wA P 117 #[.slice xf nf cf, .int .i64 n, v] := KA.row hR (fun h => h)
    have CA : Chg (fun i => i = P) w wA := KA.mono (fun i _ h => h.elim)
    have HMSA : Hid (∀ g, ms g → g < wA.heap.size) := fun g hg => Nat.lt_of_lt_of_le (HMS.out g hg) CA.size
    have fA0 := rFA.cell 0
    have zA := RowIs.fz rPA 1
    have pA1 := rPA.cell 1
    simp at fA0 pA1
    have lPA := rPA.lt
    have lFA := rFA.lt
    have hneF' : P ≠ w.heap.size := fun e => hneF e.symm
    clear hwA p0 p1
    go_wp2_with (at_builtin; (refine wpList_append_any _ rfl (.const (.slice none 0 0)) (.tmp 40) 44 rfl wA.heap.size 5 i (.int .u8 0) 1 1 Try.underlying44 hi hzz hs hbb rfl (by decide) (.slice none 0 0) 0 [] rfl (World.ownsRow_nil _ _ _ _) bx bl bc (bs.map (.int .u8)) rfl (by rw [List.length_map, HBL.out, Nat.mul_one]) (bodySrc (HBW.out _ (CA.trans (Chg.setCell wA P 1 _) (fun _ h => .inl h))).at).2 (oneCell_bytes _) (by simp [maxLen]; omega) (by omega) (by simp) ?_; intro v6 w6 own6 hgrow6 hat6; simp only [Nat.zero_add, List.nil_append] at own6; rw [HBL.out] at own6; obtain ⟨x6, c6, rfl, BF6⟩ := bodyOfOwn (ms := ms) own6 HMSA.out; have rF6 := (Chg.ofGrown hgrow6).row (rFA.far1 hneF) (fun e => by cases e); have rP6 := (Chg.ofGrown hgrow6).row (rPA.set1 _) (fun e => by cases e); have g1 := rF6.cell 1; have g2 := rF6.cell 2; have g3 := rF6.cell 3; simp at g1 g2 g3; have lF6 := rF6.lt))
    have C6 : Chg (fun i => i = P) w w6 := (CA.trans (Chg.setCell wA P 1 _) (fun i e => .inl e)).trans (Chg.ofGrown hgrow6) (fun i e => by cases e)
    have PA6 : PipeAt w6 ms P xf cf fl ((n : Int) + 1) v l := HA.out.count C6 (by rw [HNF.out]; exact rP6)
    clear own6 hgrow6 hat6 rPA rFA fA0 zA pA1 rP6 CA
    ((with_reducible refine (kAfter now 0 HNOW.out HDL.out _).mono ?_); rintro e' w' ⟨rfl, rfl⟩)
    go_wp2_with fail
    ((refine (pLay ms P xf cf fl _ v l (addI now 0) x6 _ c6 bs (addI_W _ _ HNOW.out HDL.out) (by omega) _ PA6 BF6).mono ?_); rintro e' w7 ⟨rfl, v7, K7, o7, PA7⟩)
    have rF7 := K7.row rF6 (fun e => by
      rcases e with e | e
      · exact hneF e
      · have := hvw.out _ e
        omega)
    have t1 := rF7.cell 1
    have t3 := rF7.cell 3
    simp at t1 t3
    have lF7 := rF7.lt
    have sX := C6.size
    have vms := HA.out.vms
    have o7' : ∀ g, v7.ownBlock = some g → v.ownBlock = some g ∨ w.heap.size ≤ g := fun g h => (o7 g h).elim .inl (fun h => .inr (by omega))
    have C7 : Chg (fun i => i = P ∨ v.ownBlock = some i) w w7 := (C6.mono (fun i _ e => .inl e)).trans K7 (fun i h => .inl h)
    have up7 : ∀ g, (ms g ∨ v7.ownBlock = some g) → ms g ∨ w.heap.size ≤ g := fun g h => h.elim .inl (fun h => (o7' g h).elim (fun h => .inl (vms g h).1) .inr)
    have eq7 : (insI l ⟨addI now 0, .slice x6 bs.length c6, bs⟩).map pr = insS (l.map pr) (addI now 0, bs) := insI_map l _
    have hmk : Hid ((if false = true then markF bs else bs) = bs) := by show _ = _; rfl
    go_wp2_with fail
    first | go_end0 | refine bodyPost_ret (results_none rfl _ _ _) rfl ?_
    refine ⟨rfl, v7, insI l ⟨addI now 0, .slice x6 bs.length c6, bs⟩, fun g => ms g ∨ v7.ownBlock = some g, C7, o7', fun g h => .inl h, up7, PA7, ?_⟩
    rw [eq7]
    unfold putS
    rw [HFE.out]
    simp only [Bool.false_eq_true, if_false]

end Go.Proofs.Ytikkmdbaekdolaa
