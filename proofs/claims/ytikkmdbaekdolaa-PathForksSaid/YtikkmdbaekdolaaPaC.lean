/- Several texts one behind the other: Path12. -/
import Derived.Test.YtikkmdbaekdolaaPaA
import Derived.Test.YtikkmdbaekdolaaSat
import Derived.Test.YtikkmdbaekdolaaSetRow
/- the reference's Put. -/
namespace Go.Proofs.Ytikkmdbaekdolaa
open Go.RowKit Go.Lib
set_option linter.unusedVariables false
set_option maxRecDepth 100000

theorem RowIs.set2c {w : World} {P : Nat} {a b c : Value} {t : TypeId} (h : RowIs w P t #[a, b, c]) (u : Value) : RowIs (w.setCell ⟨P, 2, none⟩ u) P t #[a, b, u] := heap_set_self w P 2 u _ _ _ h
theorem one2 (a : Int) (x : Option Addr) (n c : Nat) : ∀ u ∈ ([.int .u64 a, .slice x n c] : List Value), u.oneCell' = true := fun u hu => by
  simp only [List.mem_cons, List.not_mem_nil, or_false] at hu
  rcases hu with rfl | rfl <;> rfl

set_option maxHeartbeats 16000000 in
theorem rPut (ms : Nat → Prop) (P : Nat) (xf : Option Addr) (cf : Nat) (fl : List FateP) (n : Nat) (v : Value) (l : List Itm) (bx : Option Addr) (bl bc : Nat) (bs : List Int) (now : Int) (hb : ∀ x ∈ bs, 0 ≤ x ∧ x ≤ 255) (hlen : bs.length ≤ 140737488351232) (hnow : W64 now) (hfl : ∀ d ∈ fl, W64 d.delay) (hfn : fl.length ≤ 9223372036854775807) (hn : n ≤ 1000) (hl : l.length ≤ 990) (w : World)
    (hA : RefAt w ms P xf cf fl (n : Int) v l) (hB : BodyF w ms (.slice bx bl bc) bs) :
    Calls Try.prog 31 #[.pointer (some ⟨P, 0, none⟩), .slice bx bl bc, .int .u64 now] w fun e w' => e = .returned (.tuple #[]) ∧ ∃ v' l' ms', Chg (fun g => g = P ∨ v.ownBlock = some g) w w' ∧ (∀ g, v'.ownBlock = some g → v.ownBlock = some g ∨ w.heap.size ≤ g) ∧ (∀ g, ms g → ms' g) ∧ (∀ g, ms' g → ms g ∨ w.heap.size ≤ g) ∧ RefAt w' ms' P xf cf fl ((n : Int) + 1) v' l' ∧ l'.map pr = rputS fl n (l.map pr) now bs := by
  obtain ⟨i, hi, hzz, hs, hbb⟩ := info_parts (P := Try.prog) (e := 5) (z := .int .u8 0) (size := 1) (bytes := 1) (by kernel_rfl)
  obtain ⟨i2, hi2, hzz2, hs2, hbb2⟩ := info_parts (P := Try.prog) (e := 127) (z := (.agg #[.int .u64 0, .slice none 0 0])) (size := 2) (bytes := 32) (by kernel_rfl)
  have HA := Lib.hid hA
  have HB := Lib.hid hB
  have HNOW := Lib.hid hnow
  have HFL := Lib.hid hfl
  have HBY := Lib.hid hb
  have hR := hA.row
  have lP := hR.lt
  have HBL := Lib.hid (bodySrc hB.at).1
  obtain ⟨xv, cv, rfl, hI⟩ := itOfOwnR rfl hA.own
  have HI := Lib.hid hI
  have HBW := Lib.hid (fun W (k : Chg (fun i => i = P) w W) => hB.chg k (fun i _ e => by rw [e]; exact hA.mine) (fun _ _ h => h))
  have HMS := Lib.hid hA.msl
  have hblI : bl ≤ 140737488351232 := by rw [HBL.out]; exact hlen
  obtain ⟨nf, hnf⟩ : ∃ k, fl.length = k := ⟨_, rfl⟩
  have HNF := Lib.hid hnf
  obtain ⟨N, hN⟩ : ∃ k, l.length = k := ⟨_, rfl⟩
  have HN := Lib.hid hN
  rw [hN] at HA
  rw [hnf, hN] at hR
  rw [hnf] at hfn
  rw [hN] at hl ⊢
  have p0 := hR.cell 0
  have p2 := hR.cell 2
  simp at p0 p2
  have hnI : (n : Int) ≤ 1000 := by omega
  have hnfI : (nf : Int) ≤ 9223372036854775807 := by omega
  have hn0 : (0 : Int) ≤ (n : Int) := by omega
  have hw1 : IntKind.i64.wrap ((n : Int) + 1) = (n : Int) + 1 := by rw [IntKind.wrap_i64]; omega
  clear hA hB hnow hfl hb hnf hN hI
  go_enter Try.func31, Try.ntmps31
  have hneF : w.heap.size ≠ P := by omega
  by_cases hlt : n < nf
  · have hltI : (n : Int) < (nf : Int) := by omega
    have hd : decide ((n : Int) < (nf : Int)) = true := decide_eq_true hltI
    obtain ⟨gf, of', hxf, hgf, hfc⟩ : ∃ g o, xf = some ⟨g, o, none⟩ ∧ FAt w g o fl := by
      rcases HA.out.fates with h | h
      · rw [h] at HNF; have := HNF.out; simp at this; omega
      · exact h
    obtain ⟨q0, q1, q2, q3⟩ := hfc n (by rw [HNF.out]; exact hlt)
    have hmem : fl.getD n zF ∈ fl := by rw [List.getD_eq_getElem?_getD, List.getElem?_eq_getElem (by rw [HNF.out]; exact hlt)]; exact List.getElem_mem _
    have HDL : Hid (W64 (fl.getD n zF).delay) := HFL.out _ hmem
    obtain ⟨f, hf⟩ : ∃ f, fl.getD n zF = f := ⟨_, rfl⟩
    have HFE := Lib.hid hf
    rw [hf] at q0 q1 q2 q3 HDL
    obtain ⟨dr, tw, mk, dl⟩ := f
    simp only at q0 q1 q2 q3 HDL
    have hgF : gf ≠ w.heap.size := by omega
    have HXF := Lib.hid hxf
    clear hmem hf hfc hxf
    go_wp2_with fail
    go_quiet (fail)
    obtain ⟨w2, hw2⟩ : ∃ w2, w2 = (w.alloc (.cells #[.bool false, .bool false, .bool false, .int .u64 0] 119 (0, 0))).drewN nq := ⟨_, rfl⟩
    have r2 : RowIs w2 w.heap.size 119 #[.bool false, .bool false, .bool false, .int .u64 0] := by rw [hw2]; exact RowIs.mk (heap_alloc_new w _)
    have b2 : Below w.heap.size w w2 := by rw [hw2]; exact Gr.below (Gr.drewN (Gr.alloc (Gr.refl _) _) _)
    have K2 : Chg (fun _ => False) w w2 := Chg.ofBelow b2
    have rP2 := K2.row hR (fun h => h)
    have p0 := rP2.cell 0
    have p2 := rP2.cell 2
    simp at p0 p2
    rw [HXF.out] at p0
    have q0 : w2.cell? ⟨gf, of' + n * 4, none⟩ = some (.bool dr) := (K2.cell hgf (fun h => h)).trans q0
    have q1 : w2.cell? ⟨gf, of' + n * 4 + 1, none⟩ = some (.bool tw) := (K2.cell hgf (fun h => h)).trans q1
    have q2 : w2.cell? ⟨gf, of' + n * 4 + 2, none⟩ = some (.bool mk) := (K2.cell hgf (fun h => h)).trans q2
    have q3 : w2.cell? ⟨gf, of' + n * 4 + 3, none⟩ = some (.int .u64 dl) := (K2.cell hgf (fun h => h)).trans q3
    have lP2 := rP2.lt
    have hgf2 : gf < w2.heap.size := Nat.lt_of_lt_of_le hgf K2.size
    rw [← hw2]
    clear hw2
    go_wp2_with fail
    refine region_tail 10 (by kernel_rfl) (by kernel_rfl) ?_
    simp only [List.take_succ_cons, List.take_zero, List.drop_succ_cons, List.drop_zero]
    repeat still_step
    refine wpStill_nil ?_
    refine wpList_store_abs rfl 119 _ _ rfl _ _ rfl rfl _ _ r2.drew (by kernel_rfl) rfl (by first | kernel_rfl | rfl | simp [Value.oneCell']) ?_
    intro wA ST
    have rFA := ST.row
    have KA : Chg (fun _ => False) w wA := Chg.ofBelow (ST.below b2.drew (Nat.le_refl _))
    clear ST r2 b2 K2 rP2 p0 p2 q0 q1 q2 q3 lP2 hgf2 hgF hgf
    cases dr
    · cases mk
      · cases tw
        · skip
          have rPA : RowIs wA P 60 #[.slice xf nf cf, .slice xv N cv, .int .i64 n] := KA.row hR (fun h => h)
          have CA : Chg (fun i => i = P) w wA := KA.mono (fun i _ h => h.elim)
          have HMSA : Hid (∀ g, ms g → g < wA.heap.size) := fun g hg => Nat.lt_of_lt_of_le (HMS.out g hg) CA.size
          have fA0 := rFA.cell 0
          have zA := RowIs.fz rPA 2
          have pA2 := rPA.cell 2
          simp at fA0 pA2
          have lPA := rPA.lt
          have lFA := rFA.lt
          have hneF' : P ≠ w.heap.size := fun e => hneF e.symm
          skip
          go_wp2_with (at_builtin; (refine wpList_append_any _ rfl (.const (.slice none 0 0)) (.tmp 40) 44 rfl wA.heap.size 5 i (.int .u8 0) 1 1 Try.underlying44 hi hzz hs hbb rfl (by decide) (.slice none 0 0) 0 [] rfl (World.ownsRow_nil _ _ _ _) bx bl bc (bs.map (.int .u8)) rfl (by rw [List.length_map, HBL.out, Nat.mul_one]) (bodySrc (HBW.out _ (CA.trans (Chg.setCell wA P 2 _) (fun _ h => .inl h))).at).2 (oneCell_bytes _) (by simp [maxLen]; omega) (by omega) (by simp) ?_; intro v6 w6 own6 hgrow6 hat6; simp only [Nat.zero_add, List.nil_append] at own6; rw [HBL.out] at own6; obtain ⟨x6, c6, rfl, BF6⟩ := bodyOfOwn (ms := ms) own6 HMSA.out; have rF6 := (Chg.ofGrown hgrow6).row (rFA.far1 hneF) (fun e => by cases e); have rP6 := (Chg.ofGrown hgrow6).row (rPA.set2c _) (fun e => by cases e); have g1 := rF6.cell 1; have g2 := rF6.cell 2; have g3 := rF6.cell 3; simp at g1 g2 g3; have lF6 := rF6.lt))
          have C6 : Chg (fun i => i = P) w w6 := (CA.trans (Chg.setCell wA P 2 _) (fun i e => .inl e)).trans (Chg.ofGrown hgrow6) (fun i e => by cases e)
          have RA6 : RefAt w6 ms P xf cf fl ((n : Int) + 1) (.slice xv N cv) l := HA.out.count C6 (by rw [HNF.out]; exact rP6)
          clear own6 hgrow6 hat6 rPA rFA fA0 zA pA2 rP6 CA
          ((refine (rAdd now dl HNOW.out HDL.out _).mono ?_); rintro e' w' ⟨rfl, rfl⟩)
          go_wp2_with fail
          obtain ⟨w7, hw7⟩ : ∃ w7, w7 = w6.alloc (.cells #[.int .u64 (addI now dl), .slice x6 bs.length c6] 127 (0, 0)) := ⟨_, rfl⟩
          try rw [← hw7]
          have K7 : Chg (fun _ => False) w6 w7 := by rw [hw7]; exact Chg.alloc _ _
          have rL7 : RowIs w7 w6.heap.size 127 #[.int .u64 (addI now dl), .slice x6 bs.length c6] := by rw [hw7]; exact RowIs.mk (heap_alloc_new w6 _)
          clear hw7
          have RA7 := RefAt.same RA6 K7
          have BF7 : BodyF w7 ms (.slice x6 bs.length c6) bs := BodyF.chg BF6 K7 (fun _ _ h => h.elim) (fun _ _ h => h)
          have rF7 := K7.row rF6 (fun h => h)
          have C7 := C6.trans K7 (fun i h => h.elim)
          have haW : Hid (W64 (addI now dl)) := Lib.hid (addI_W _ _ HNOW.out HDL.out)
          have HLM : Hid (¬ ms w6.heap.size) := fun h => Nat.lt_irrefl _ (RA6.msl _ h)
          have hmk : Hid ((if false = true then markF bs else bs) = bs) := by show _ = _; rfl
          have rPA : RowIs w7 P 60 #[.slice xf nf cf, .slice xv N cv, .int .i64 ((n : Int) + 1)] := by have := RA7.row; rwa [HNF.out] at this
          have HRAA := Lib.hid RA7
          have HBFA := Lib.hid BF7
          have HOWA := Lib.hid RA7.own
          rw [HN.out] at HOWA
          refine TillLast.begin (S := fun W => RowIs W P 60 #[.slice xf nf cf, .slice xv N cv, .int .i64 ((n : Int) + 1)] ∧ RowIs W w6.heap.size 127 #[.int .u64 (addI now dl), .slice x6 bs.length c6]) 10 (by kernel_rfl) ?_
          obtain ⟨XA, hXA⟩ : ∃ X, X = w7.drew := ⟨_, rfl⟩
          have KXA : Chg (fun _ => False) w7 XA := by rw [hXA]; exact Chg.drew' (Chg.refl _ _)
          have rPXA := KXA.row rPA (fun h => h)
          have rLXA := KXA.row rL7 (fun h => h)
          rw [← hXA]
          clear hXA
          refine TillLast.take (i := 0) (oi := _) (v := (.pointer (some ⟨P, 0, none⟩))) rfl (by kernel_rfl) (by kernel_rfl) (by kernel_rfl) (by kernel_rfl) (fun _ _ _ h => h) (Or.inl ⟨by rfl, fun w hS => by go_simp⟩) ⟨rPXA, rLXA⟩ ?_
          simp [Act.put]
          refine TillLast.take (i := 1) (oi := _) (v := (.pointer (some ⟨P, 0, none⟩))) rfl (by kernel_rfl) (by kernel_rfl) (by kernel_rfl) (by kernel_rfl) (fun _ _ _ h => h) (Or.inl ⟨by rfl, fun w hS => by go_simp⟩) ⟨rPXA, rLXA⟩ ?_
          simp [Act.put]
          refine TillLast.take (i := 2) (oi := _) (v := (.pointer (some ⟨P, 0, none⟩))) rfl (by kernel_rfl) (by kernel_rfl) (by kernel_rfl) (by kernel_rfl) (fun _ _ _ h => h) (Or.inl ⟨by rfl, fun w hS => by go_simp⟩) ⟨rPXA, rLXA⟩ ?_
          simp [Act.put]
          refine TillLast.take (i := 3) (oi := _) (v := (.pointer (some ⟨P, 1, none⟩))) rfl (by kernel_rfl) (by kernel_rfl) (by kernel_rfl) (by kernel_rfl) (fun _ _ _ h => h) (Or.inl ⟨by rfl, fun w hS => by go_simp⟩) ⟨rPXA, rLXA⟩ ?_
          simp [Act.put]
          refine TillLast.take (i := 4) (oi := _) (v := (.slice xv N cv)) rfl (by kernel_rfl) (by kernel_rfl) (by kernel_rfl) (by kernel_rfl) (fun _ _ _ h => h) (Or.inl ⟨by rfl, fun w hS => by have hc1 := RowIs.cell hS.1 1; have hlt := RowIs.lt hS.1; simp at hc1; clear hS; go_simp⟩) ⟨rPXA, rLXA⟩ ?_
          simp [Act.put]
          refine TillLast.take (i := 5) (oi := _) (v := (.agg #[.int .u64 (addI now dl), .slice x6 bs.length c6])) rfl (by kernel_rfl) (by kernel_rfl) (by kernel_rfl) (by kernel_rfl) (fun _ _ _ h => h) (Or.inl ⟨by rfl, fun w hS => by have hc0 := RowIs.cell hS.2 0; have hc1 := RowIs.cell hS.2 1; have hlt := RowIs.lt hS.2; simp at hc0 hc1; clear hS; go_simp⟩) ⟨rPXA, rLXA⟩ ?_
          simp [Act.put]
          refine TillLast.step (i := 6) (by kernel_rfl) rfl (fun K hK => ?_)
          go_simp
          obtain ⟨wBA, hwBA⟩ : ∃ wB, wB = XA.alloc (.cells #[.int .u64 (addI now dl), .slice x6 bs.length c6] 127 (0, 0)) := ⟨_, rfl⟩
          try rw [← hwBA]
          have KBA : Chg (fun _ => False) XA wBA := by rw [hwBA]; exact Chg.alloc _ _
          have rPBA := KBA.row rPXA (fun h => h)
          have rLBA := KBA.row rLXA (fun h => h)
          have rNBA : RowIs wBA XA.heap.size 127 #[.int .u64 (addI now dl), .slice x6 bs.length c6] := by rw [hwBA]; exact RowIs.mk (heap_alloc_new _ _)
          refine hK.out _ _ (fun _ => ⟨rPBA, rLBA⟩) ?_
          clear hK K hwBA
          have KBTA := KXA.trans KBA (fun _ h => h.elim)
          refine TillLast.step (i := 7) (by kernel_rfl) rfl (fun K hK => ?_)
          rw [if_pos (by rfl)]
          refine wp_append_any (.tmp 61) (.tmp 63) 58 rfl 0 127 i2 (.agg #[.int .u64 0, .slice none 0 0]) 2 32 Try.underlying58 hi2 hzz2 hs2 hbb2 rfl (by decide) (.slice xv N cv) N (flatI l) rfl (KBTA.own HOWA.out (fun _ _ h => h)) (some ⟨XA.heap.size, 0, none⟩) 1 1 [.int .u64 (addI now dl), .slice x6 bs.length c6] rfl rfl (.inr ⟨_, rfl, one_news rNBA⟩) (one2 _ _ _ _) (by simp [maxLen]; omega) (by omega) (Nat.zero_le _) ?_
          intro v8 w8A own8A hgrow8A hat8A
          obtain ⟨x8A, c8A, rfl⟩ := own_slice own8A
          have K8A : Chg (fun i => (Value.slice xv N cv).ownBlock = some i) wBA w8A := Chg.ofGrown hgrow8A
          have rP8A := K8A.row rPBA (fun e => (HRAA.out.vms _ e).2 rfl)
          have rL8A := K8A.row rLBA (fun e => HLM.out (HRAA.out.vms _ e).1)
          simp [Act.put]
          refine hK.out _ _ (fun _ => ⟨rP8A, rL8A⟩) ?_
          clear hK K
          refine TillLast.take (i := 8) (oi := _) (v := (.pointer (some ⟨P, 0, none⟩))) rfl (by kernel_rfl) (by kernel_rfl) (by kernel_rfl) (by kernel_rfl) (fun _ _ _ h => h) (Or.inl ⟨by rfl, fun w hS => by go_simp⟩) ⟨rP8A, rL8A⟩ ?_
          simp [Act.put]
          refine TillLast.take (i := 9) (oi := _) (v := (.pointer (some ⟨P, 1, none⟩))) rfl (by kernel_rfl) (by kernel_rfl) (by kernel_rfl) (by kernel_rfl) (fun _ _ _ h => h) (Or.inl ⟨by rfl, fun w hS => by go_simp⟩) ⟨rP8A, rL8A⟩ ?_
          simp [Act.put]
          have zP8A := RowIs.fz rP8A 1
          have cP8A := RowIs.cell rP8A 1
          have lP8A := RowIs.lt rP8A
          simp at cP8A
          refine TillLast.step (i := 10) (by kernel_rfl) rfl (fun K hK => ?_)
          go_simp
          refine hK.out _ _ (fun h => absurd rfl h) ?_
          clear hK K
          refine TillLast.done (by kernel_rfl) ?_ _
          obtain ⟨w9A, hw9A⟩ : ∃ w9, w9 = w8A.setCell ⟨P, 1, none⟩ (.slice x8A (N + 1) c8A) := ⟨_, rfl⟩
          try rw [← hw9A]
          have K89A : Chg (fun i => i = P) w8A w9A := by rw [hw9A]; exact Chg.setCell _ _ _ _
          have r9A : RowIs w9A P 60 #[.slice xf nf cf, .slice x8A (N + 1) c8A, .int .i64 ((n : Int) + 1)] := by rw [hw9A]; exact rP8A.set1 _
          have hv8A : ∀ g, (Value.slice x8A (N + 1) c8A).ownBlock = some g → (.slice xv N cv : Value).ownBlock = some g ∨ w7.heap.size ≤ g := fun g e => by
            have sB := KBTA.size
            rcases hat8A with h | h
            · exact .inl (h ▸ e)
            · rw [h] at e
              injection e with e
              exact .inr (by omega)
          have own9A := K89A.own own8A (fun g e h => (hv8A g e).elim (fun h' => (HRAA.out.vms g h').2 h) (fun h' => by have := HRAA.out.row.lt; omega))
          have C9A : Chg (fun i => i = P ∨ (.slice xv N cv : Value).ownBlock = some i) w7 w9A := ((KBTA.mono (fun _ _ h => h.elim)).trans (K8A.mono (fun _ _ h => .inr h)) (fun i h => .inl h)).trans K89A (fun i h => .inl (.inl h))
          have RA9A := rlay_done HRAA.out HBFA.out haW.out rfl C9A (by rw [HNF.out]; exact r9A) (by rw [HN.out]; exact own9A) hv8A
          clear hw9A K89A r9A own9A own8A hgrow8A hat8A K8A rP8A rL8A rPBA rLBA rNBA KBA KBTA rPXA rLXA KXA zP8A cP8A rPA lP8A HBFA HOWA
          have sX7 := C7.size
          have hvw : ∀ g, (Value.slice xv N cv).ownBlock = some g → ms g ∧ g ≠ P := HA.out.vms
          have rF9 := C9A.row rF7 (fun e => e.elim (fun e => hneF e) (fun e => Nat.lt_irrefl _ (HMS.out _ (hvw _ e).1)))
          have t1 := rF9.cell 1
          have t3 := rF9.cell 3
          simp at t1 t3
          have lF9 := rF9.lt
          have C9 : Chg (fun i => i = P ∨ (Value.slice xv N cv).ownBlock = some i) w w9A := (C7.mono (fun i _ e => .inl e)).trans C9A (fun i h => .inl h)
          have o9 : ∀ g, (Value.slice x8A (N + 1) c8A).ownBlock = some g → (Value.slice xv N cv).ownBlock = some g ∨ w.heap.size ≤ g := fun g h => (hv8A g h).elim .inl (fun h => .inr (Nat.le_trans sX7 h))
          have up9 : ∀ g, (ms g ∨ (Value.slice x8A (N + 1) c8A).ownBlock = some g) → ms g ∨ w.heap.size ≤ g := fun g h => h.elim .inl (fun h => (o9 g h).elim (fun h => .inl (hvw g h).1) .inr)
          have hLA := rL7.lt
          clear rF7 rF9
          have FIN : ∃ v' l' ms', Chg (fun g => g = P ∨ (Value.slice xv N cv).ownBlock = some g) w w9A ∧ (∀ g, v'.ownBlock = some g → (Value.slice xv N cv).ownBlock = some g ∨ w.heap.size ≤ g) ∧ (∀ g, ms g → ms' g) ∧ (∀ g, ms' g → ms g ∨ w.heap.size ≤ g) ∧ RefAt w9A ms' P xf cf fl ((n : Int) + 1) v' l' ∧ l'.map pr = rputS fl n (l.map pr) now bs := ⟨Value.slice x8A (N + 1) c8A, l ++ [(⟨addI now dl, .slice x6 bs.length c6, bs⟩ : Itm)], (fun g => ms g ∨ (Value.slice x8A (N + 1) c8A).ownBlock = some g), C9, o9, (fun g h => .inl h), up9, RA9A, by rw [List.map_append, rput_no HFE.out rfl rfl hmk.out]; rfl⟩
          clear RA9A C9 o9 up9
          go_wp2_with fail
          first | go_end0 | refine bodyPost_ret (results_none rfl _ _ _) rfl ?_
          first | exact ⟨rfl, FIN⟩ | (obtain ⟨v', l', ms', f1, f2, f3, f4, f5, f6⟩ := FIN; exact ⟨rfl, f1, v', f2, l', ms', f3, f4, f5, f6⟩) | (obtain ⟨v', l', ms', f1, f2, f3, f4, f5, f6⟩ := FIN; exact ⟨rfl, f1, v', f2, l', f6, ms', f3, f4, f5⟩) | (obtain ⟨v', l', ms', f1, f2, f3, f4, f5, f6⟩ := FIN; exact ⟨rfl, f1, v', f2, l', ⟨ms', f3, f4, f5⟩, f6⟩)
        · skip
          have rPA : RowIs wA P 60 #[.slice xf nf cf, .slice xv N cv, .int .i64 n] := KA.row hR (fun h => h)
          have CA : Chg (fun i => i = P) w wA := KA.mono (fun i _ h => h.elim)
          have HMSA : Hid (∀ g, ms g → g < wA.heap.size) := fun g hg => Nat.lt_of_lt_of_le (HMS.out g hg) CA.size
          have fA0 := rFA.cell 0
          have zA := RowIs.fz rPA 2
          have pA2 := rPA.cell 2
          simp at fA0 pA2
          have lPA := rPA.lt
          have lFA := rFA.lt
          have hneF' : P ≠ w.heap.size := fun e => hneF e.symm
          skip
          go_wp2_with (at_builtin; (refine wpList_append_any _ rfl (.const (.slice none 0 0)) (.tmp 40) 44 rfl wA.heap.size 5 i (.int .u8 0) 1 1 Try.underlying44 hi hzz hs hbb rfl (by decide) (.slice none 0 0) 0 [] rfl (World.ownsRow_nil _ _ _ _) bx bl bc (bs.map (.int .u8)) rfl (by rw [List.length_map, HBL.out, Nat.mul_one]) (bodySrc (HBW.out _ (CA.trans (Chg.setCell wA P 2 _) (fun _ h => .inl h))).at).2 (oneCell_bytes _) (by simp [maxLen]; omega) (by omega) (by simp) ?_; intro v6 w6 own6 hgrow6 hat6; simp only [Nat.zero_add, List.nil_append] at own6; rw [HBL.out] at own6; obtain ⟨x6, c6, rfl, BF6⟩ := bodyOfOwn (ms := ms) own6 HMSA.out; have rF6 := (Chg.ofGrown hgrow6).row (rFA.far1 hneF) (fun e => by cases e); have rP6 := (Chg.ofGrown hgrow6).row (rPA.set2c _) (fun e => by cases e); have g1 := rF6.cell 1; have g2 := rF6.cell 2; have g3 := rF6.cell 3; simp at g1 g2 g3; have lF6 := rF6.lt))
          have C6 : Chg (fun i => i = P) w w6 := (CA.trans (Chg.setCell wA P 2 _) (fun i e => .inl e)).trans (Chg.ofGrown hgrow6) (fun i e => by cases e)
          have RA6 : RefAt w6 ms P xf cf fl ((n : Int) + 1) (.slice xv N cv) l := HA.out.count C6 (by rw [HNF.out]; exact rP6)
          clear own6 hgrow6 hat6 rPA rFA fA0 zA pA2 rP6 CA
          ((refine (rAdd now dl HNOW.out HDL.out _).mono ?_); rintro e' w' ⟨rfl, rfl⟩)
          go_wp2_with fail
          obtain ⟨w7, hw7⟩ : ∃ w7, w7 = w6.alloc (.cells #[.int .u64 (addI now dl), .slice x6 bs.length c6] 127 (0, 0)) := ⟨_, rfl⟩
          try rw [← hw7]
          have K7 : Chg (fun _ => False) w6 w7 := by rw [hw7]; exact Chg.alloc _ _
          have rL7 : RowIs w7 w6.heap.size 127 #[.int .u64 (addI now dl), .slice x6 bs.length c6] := by rw [hw7]; exact RowIs.mk (heap_alloc_new w6 _)
          clear hw7
          have RA7 := RefAt.same RA6 K7
          have BF7 : BodyF w7 ms (.slice x6 bs.length c6) bs := BodyF.chg BF6 K7 (fun _ _ h => h.elim) (fun _ _ h => h)
          have rF7 := K7.row rF6 (fun h => h)
          have C7 := C6.trans K7 (fun i h => h.elim)
          have haW : Hid (W64 (addI now dl)) := Lib.hid (addI_W _ _ HNOW.out HDL.out)
          have HLM : Hid (¬ ms w6.heap.size) := fun h => Nat.lt_irrefl _ (RA6.msl _ h)
          have hmk : Hid ((if false = true then markF bs else bs) = bs) := by show _ = _; rfl
          have rPA : RowIs w7 P 60 #[.slice xf nf cf, .slice xv N cv, .int .i64 ((n : Int) + 1)] := by have := RA7.row; rwa [HNF.out] at this
          have HRAA := Lib.hid RA7
          have HBFA := Lib.hid BF7
          have HOWA := Lib.hid RA7.own
          rw [HN.out] at HOWA
          refine TillLast.begin (S := fun W => RowIs W P 60 #[.slice xf nf cf, .slice xv N cv, .int .i64 ((n : Int) + 1)] ∧ RowIs W w6.heap.size 127 #[.int .u64 (addI now dl), .slice x6 bs.length c6]) 10 (by kernel_rfl) ?_
          obtain ⟨XA, hXA⟩ : ∃ X, X = w7.drew := ⟨_, rfl⟩
          have KXA : Chg (fun _ => False) w7 XA := by rw [hXA]; exact Chg.drew' (Chg.refl _ _)
          have rPXA := KXA.row rPA (fun h => h)
          have rLXA := KXA.row rL7 (fun h => h)
          rw [← hXA]
          clear hXA
          refine TillLast.take (i := 0) (oi := _) (v := (.pointer (some ⟨P, 0, none⟩))) rfl (by kernel_rfl) (by kernel_rfl) (by kernel_rfl) (by kernel_rfl) (fun _ _ _ h => h) (Or.inl ⟨by rfl, fun w hS => by go_simp⟩) ⟨rPXA, rLXA⟩ ?_
          simp [Act.put]
          refine TillLast.take (i := 1) (oi := _) (v := (.pointer (some ⟨P, 0, none⟩))) rfl (by kernel_rfl) (by kernel_rfl) (by kernel_rfl) (by kernel_rfl) (fun _ _ _ h => h) (Or.inl ⟨by rfl, fun w hS => by go_simp⟩) ⟨rPXA, rLXA⟩ ?_
          simp [Act.put]
          refine TillLast.take (i := 2) (oi := _) (v := (.pointer (some ⟨P, 0, none⟩))) rfl (by kernel_rfl) (by kernel_rfl) (by kernel_rfl) (by kernel_rfl) (fun _ _ _ h => h) (Or.inl ⟨by rfl, fun w hS => by go_simp⟩) ⟨rPXA, rLXA⟩ ?_
          simp [Act.put]
          refine TillLast.take (i := 3) (oi := _) (v := (.pointer (some ⟨P, 1, none⟩))) rfl (by kernel_rfl) (by kernel_rfl) (by kernel_rfl) (by kernel_rfl) (fun _ _ _ h => h) (Or.inl ⟨by rfl, fun w hS => by go_simp⟩) ⟨rPXA, rLXA⟩ ?_
          simp [Act.put]
          refine TillLast.take (i := 4) (oi := _) (v := (.slice xv N cv)) rfl (by kernel_rfl) (by kernel_rfl) (by kernel_rfl) (by kernel_rfl) (fun _ _ _ h => h) (Or.inl ⟨by rfl, fun w hS => by have hc1 := RowIs.cell hS.1 1; have hlt := RowIs.lt hS.1; simp at hc1; clear hS; go_simp⟩) ⟨rPXA, rLXA⟩ ?_
          simp [Act.put]
          refine TillLast.take (i := 5) (oi := _) (v := (.agg #[.int .u64 (addI now dl), .slice x6 bs.length c6])) rfl (by kernel_rfl) (by kernel_rfl) (by kernel_rfl) (by kernel_rfl) (fun _ _ _ h => h) (Or.inl ⟨by rfl, fun w hS => by have hc0 := RowIs.cell hS.2 0; have hc1 := RowIs.cell hS.2 1; have hlt := RowIs.lt hS.2; simp at hc0 hc1; clear hS; go_simp⟩) ⟨rPXA, rLXA⟩ ?_
          simp [Act.put]
          refine TillLast.step (i := 6) (by kernel_rfl) rfl (fun K hK => ?_)
          go_simp
          obtain ⟨wBA, hwBA⟩ : ∃ wB, wB = XA.alloc (.cells #[.int .u64 (addI now dl), .slice x6 bs.length c6] 127 (0, 0)) := ⟨_, rfl⟩
          try rw [← hwBA]
          have KBA : Chg (fun _ => False) XA wBA := by rw [hwBA]; exact Chg.alloc _ _
          have rPBA := KBA.row rPXA (fun h => h)
          have rLBA := KBA.row rLXA (fun h => h)
          have rNBA : RowIs wBA XA.heap.size 127 #[.int .u64 (addI now dl), .slice x6 bs.length c6] := by rw [hwBA]; exact RowIs.mk (heap_alloc_new _ _)
          refine hK.out _ _ (fun _ => ⟨rPBA, rLBA⟩) ?_
          clear hK K hwBA
          have KBTA := KXA.trans KBA (fun _ h => h.elim)
          refine TillLast.step (i := 7) (by kernel_rfl) rfl (fun K hK => ?_)
          rw [if_pos (by rfl)]
          refine wp_append_any (.tmp 61) (.tmp 63) 58 rfl 0 127 i2 (.agg #[.int .u64 0, .slice none 0 0]) 2 32 Try.underlying58 hi2 hzz2 hs2 hbb2 rfl (by decide) (.slice xv N cv) N (flatI l) rfl (KBTA.own HOWA.out (fun _ _ h => h)) (some ⟨XA.heap.size, 0, none⟩) 1 1 [.int .u64 (addI now dl), .slice x6 bs.length c6] rfl rfl (.inr ⟨_, rfl, one_news rNBA⟩) (one2 _ _ _ _) (by simp [maxLen]; omega) (by omega) (Nat.zero_le _) ?_
          intro v8 w8A own8A hgrow8A hat8A
          obtain ⟨x8A, c8A, rfl⟩ := own_slice own8A
          have K8A : Chg (fun i => (Value.slice xv N cv).ownBlock = some i) wBA w8A := Chg.ofGrown hgrow8A
          have rP8A := K8A.row rPBA (fun e => (HRAA.out.vms _ e).2 rfl)
          have rL8A := K8A.row rLBA (fun e => HLM.out (HRAA.out.vms _ e).1)
          simp [Act.put]
          refine hK.out _ _ (fun _ => ⟨rP8A, rL8A⟩) ?_
          clear hK K
          refine TillLast.take (i := 8) (oi := _) (v := (.pointer (some ⟨P, 0, none⟩))) rfl (by kernel_rfl) (by kernel_rfl) (by kernel_rfl) (by kernel_rfl) (fun _ _ _ h => h) (Or.inl ⟨by rfl, fun w hS => by go_simp⟩) ⟨rP8A, rL8A⟩ ?_
          simp [Act.put]
          refine TillLast.take (i := 9) (oi := _) (v := (.pointer (some ⟨P, 1, none⟩))) rfl (by kernel_rfl) (by kernel_rfl) (by kernel_rfl) (by kernel_rfl) (fun _ _ _ h => h) (Or.inl ⟨by rfl, fun w hS => by go_simp⟩) ⟨rP8A, rL8A⟩ ?_
          simp [Act.put]
          have zP8A := RowIs.fz rP8A 1
          have cP8A := RowIs.cell rP8A 1
          have lP8A := RowIs.lt rP8A
          simp at cP8A
          refine TillLast.step (i := 10) (by kernel_rfl) rfl (fun K hK => ?_)
          go_simp
          refine hK.out _ _ (fun h => absurd rfl h) ?_
          clear hK K
          refine TillLast.done (by kernel_rfl) ?_ _
          obtain ⟨w9A, hw9A⟩ : ∃ w9, w9 = w8A.setCell ⟨P, 1, none⟩ (.slice x8A (N + 1) c8A) := ⟨_, rfl⟩
          try rw [← hw9A]
          have K89A : Chg (fun i => i = P) w8A w9A := by rw [hw9A]; exact Chg.setCell _ _ _ _
          have r9A : RowIs w9A P 60 #[.slice xf nf cf, .slice x8A (N + 1) c8A, .int .i64 ((n : Int) + 1)] := by rw [hw9A]; exact rP8A.set1 _
          have hv8A : ∀ g, (Value.slice x8A (N + 1) c8A).ownBlock = some g → (.slice xv N cv : Value).ownBlock = some g ∨ w7.heap.size ≤ g := fun g e => by
            have sB := KBTA.size
            rcases hat8A with h | h
            · exact .inl (h ▸ e)
            · rw [h] at e
              injection e with e
              exact .inr (by omega)
          have own9A := K89A.own own8A (fun g e h => (hv8A g e).elim (fun h' => (HRAA.out.vms g h').2 h) (fun h' => by have := HRAA.out.row.lt; omega))
          have C9A : Chg (fun i => i = P ∨ (.slice xv N cv : Value).ownBlock = some i) w7 w9A := ((KBTA.mono (fun _ _ h => h.elim)).trans (K8A.mono (fun _ _ h => .inr h)) (fun i h => .inl h)).trans K89A (fun i h => .inl (.inl h))
          have RA9A := rlay_done HRAA.out HBFA.out haW.out rfl C9A (by rw [HNF.out]; exact r9A) (by rw [HN.out]; exact own9A) hv8A
          clear hw9A K89A r9A own9A own8A hgrow8A hat8A K8A rP8A rL8A rPBA rLBA rNBA KBA KBTA rPXA rLXA KXA zP8A cP8A rPA lP8A HBFA HOWA
          have sX7 := C7.size
          have hvw : ∀ g, (Value.slice xv N cv).ownBlock = some g → ms g ∧ g ≠ P := HA.out.vms
          have rF9 := C9A.row rF7 (fun e => e.elim (fun e => hneF e) (fun e => Nat.lt_irrefl _ (HMS.out _ (hvw _ e).1)))
          have t1 := rF9.cell 1
          have t3 := rF9.cell 3
          simp at t1 t3
          have lF9 := rF9.lt
          have C9 : Chg (fun i => i = P ∨ (Value.slice xv N cv).ownBlock = some i) w w9A := (C7.mono (fun i _ e => .inl e)).trans C9A (fun i h => .inl h)
          have o9 : ∀ g, (Value.slice x8A (N + 1) c8A).ownBlock = some g → (Value.slice xv N cv).ownBlock = some g ∨ w.heap.size ≤ g := fun g h => (hv8A g h).elim .inl (fun h => .inr (Nat.le_trans sX7 h))
          have up9 : ∀ g, (ms g ∨ (Value.slice x8A (N + 1) c8A).ownBlock = some g) → ms g ∨ w.heap.size ≤ g := fun g h => h.elim .inl (fun h => (o9 g h).elim (fun h => .inl (hvw g h).1) .inr)
          have hLA := rL7.lt
          clear rF7 rF9
          have HMS9 : Hid (∀ i, i < w7.heap.size → (ms i ∨ (Value.slice x8A (N + 1) c8A).ownBlock = some i) → ms i) := fun i hi h => h.elim (fun h => h) (fun h => (hv8A i h).elim (fun h => (hvw i h).1) (fun h => absurd hi (Nat.not_lt.mpr h)))
          have BF9 : BodyF w9A (fun g => ms g ∨ (Value.slice x8A (N + 1) c8A).ownBlock = some g) (.slice x6 bs.length c6) bs := BF7.chg C9A (fun i _ e => e.elim (fun e => by rw [e]; exact HA.out.mine) (fun e => (hvw i e).1)) HMS9.out
          have hn9 : (l ++ [(⟨addI now dl, .slice x6 bs.length c6, bs⟩ : Itm)]).length = N + 1 := by rw [List.length_append, HN.out]; rfl
          have HN9 := Lib.hid hn9
          have HC9 := Lib.hid C9
          have HO9 := Lib.hid o9
          have HUP9 := Lib.hid up9
          have sC9 := C9.size
          have rL9 := C9A.row rL7 (fun e => e.elim (fun e => HLM.out (e ▸ HA.out.mine)) (fun e => HLM.out (hvw _ e).1))
          have HLM9 : Hid (¬ (ms w6.heap.size ∨ (Value.slice x8A (N + 1) c8A).ownBlock = some w6.heap.size)) := fun h => h.elim HLM.out (fun h => (hv8A _ h).elim (fun h => HLM.out (hvw _ h).1) (fun h => by have := hLA; omega))
          clear hn9 C9 o9 up9 BF7 RA7 C7 K7 hvw C9A rL7
          go_wp2_with fail
          have rPB : RowIs w9A P 60 #[.slice xf nf cf, .slice x8A (N + 1) c8A, .int .i64 ((n : Int) + 1)] := by have := RA9A.row; rwa [HNF.out] at this
          have HRAB := Lib.hid RA9A
          have HBFB := Lib.hid BF9
          have HOWB := Lib.hid RA9A.own
          rw [HN9.out] at HOWB
          refine TillLast.begin (S := fun W => RowIs W P 60 #[.slice xf nf cf, .slice x8A (N + 1) c8A, .int .i64 ((n : Int) + 1)] ∧ RowIs W w6.heap.size 127 #[.int .u64 (addI now dl), .slice x6 bs.length c6]) 10 (by kernel_rfl) ?_
          obtain ⟨XB, hXB⟩ : ∃ X, X = w9A.drew := ⟨_, rfl⟩
          have KXB : Chg (fun _ => False) w9A XB := by rw [hXB]; exact Chg.drew' (Chg.refl _ _)
          have rPXB := KXB.row rPB (fun h => h)
          have rLXB := KXB.row rL9 (fun h => h)
          rw [← hXB]
          clear hXB
          refine TillLast.take (i := 0) (oi := _) (v := (.pointer (some ⟨P, 0, none⟩))) rfl (by kernel_rfl) (by kernel_rfl) (by kernel_rfl) (by kernel_rfl) (fun _ _ _ h => h) (Or.inl ⟨by rfl, fun w hS => by go_simp⟩) ⟨rPXB, rLXB⟩ ?_
          simp [Act.put]
          refine TillLast.take (i := 1) (oi := _) (v := (.pointer (some ⟨P, 0, none⟩))) rfl (by kernel_rfl) (by kernel_rfl) (by kernel_rfl) (by kernel_rfl) (fun _ _ _ h => h) (Or.inl ⟨by rfl, fun w hS => by go_simp⟩) ⟨rPXB, rLXB⟩ ?_
          simp [Act.put]
          refine TillLast.take (i := 2) (oi := _) (v := (.pointer (some ⟨P, 0, none⟩))) rfl (by kernel_rfl) (by kernel_rfl) (by kernel_rfl) (by kernel_rfl) (fun _ _ _ h => h) (Or.inl ⟨by rfl, fun w hS => by go_simp⟩) ⟨rPXB, rLXB⟩ ?_
          simp [Act.put]
          refine TillLast.take (i := 3) (oi := _) (v := (.pointer (some ⟨P, 1, none⟩))) rfl (by kernel_rfl) (by kernel_rfl) (by kernel_rfl) (by kernel_rfl) (fun _ _ _ h => h) (Or.inl ⟨by rfl, fun w hS => by go_simp⟩) ⟨rPXB, rLXB⟩ ?_
          simp [Act.put]
          refine TillLast.take (i := 4) (oi := _) (v := (.slice x8A (N + 1) c8A)) rfl (by kernel_rfl) (by kernel_rfl) (by kernel_rfl) (by kernel_rfl) (fun _ _ _ h => h) (Or.inl ⟨by rfl, fun w hS => by have hc1 := RowIs.cell hS.1 1; have hlt := RowIs.lt hS.1; simp at hc1; clear hS; go_simp⟩) ⟨rPXB, rLXB⟩ ?_
          simp [Act.put]
          refine TillLast.take (i := 5) (oi := _) (v := (.agg #[.int .u64 (addI now dl), .slice x6 bs.length c6])) rfl (by kernel_rfl) (by kernel_rfl) (by kernel_rfl) (by kernel_rfl) (fun _ _ _ h => h) (Or.inl ⟨by rfl, fun w hS => by have hc0 := RowIs.cell hS.2 0; have hc1 := RowIs.cell hS.2 1; have hlt := RowIs.lt hS.2; simp at hc0 hc1; clear hS; go_simp⟩) ⟨rPXB, rLXB⟩ ?_
          simp [Act.put]
          refine TillLast.step (i := 6) (by kernel_rfl) rfl (fun K hK => ?_)
          go_simp
          obtain ⟨wBB, hwBB⟩ : ∃ wB, wB = XB.alloc (.cells #[.int .u64 (addI now dl), .slice x6 bs.length c6] 127 (0, 0)) := ⟨_, rfl⟩
          try rw [← hwBB]
          have KBB : Chg (fun _ => False) XB wBB := by rw [hwBB]; exact Chg.alloc _ _
          have rPBB := KBB.row rPXB (fun h => h)
          have rLBB := KBB.row rLXB (fun h => h)
          have rNBB : RowIs wBB XB.heap.size 127 #[.int .u64 (addI now dl), .slice x6 bs.length c6] := by rw [hwBB]; exact RowIs.mk (heap_alloc_new _ _)
          refine hK.out _ _ (fun _ => ⟨rPBB, rLBB⟩) ?_
          clear hK K hwBB
          have KBTB := KXB.trans KBB (fun _ h => h.elim)
          refine TillLast.step (i := 7) (by kernel_rfl) rfl (fun K hK => ?_)
          rw [if_pos (by rfl)]
          refine wp_append_any (.tmp 73) (.tmp 75) 58 rfl 0 127 i2 (.agg #[.int .u64 0, .slice none 0 0]) 2 32 Try.underlying58 hi2 hzz2 hs2 hbb2 rfl (by decide) (.slice x8A (N + 1) c8A) (N + 1) (flatI (l ++ [(⟨addI now dl, .slice x6 bs.length c6, bs⟩ : Itm)])) rfl (KBTB.own HOWB.out (fun _ _ h => h)) (some ⟨XB.heap.size, 0, none⟩) 1 1 [.int .u64 (addI now dl), .slice x6 bs.length c6] rfl rfl (.inr ⟨_, rfl, one_news rNBB⟩) (one2 _ _ _ _) (by simp [maxLen]; omega) (by omega) (Nat.zero_le _) ?_
          intro v8 w8B own8B hgrow8B hat8B
          obtain ⟨x8B, c8B, rfl⟩ := own_slice own8B
          have K8B : Chg (fun i => (Value.slice x8A (N + 1) c8A).ownBlock = some i) wBB w8B := Chg.ofGrown hgrow8B
          have rP8B := K8B.row rPBB (fun e => (HRAB.out.vms _ e).2 rfl)
          have rL8B := K8B.row rLBB (fun e => HLM9.out (HRAB.out.vms _ e).1)
          simp [Act.put]
          refine hK.out _ _ (fun _ => ⟨rP8B, rL8B⟩) ?_
          clear hK K
          refine TillLast.take (i := 8) (oi := _) (v := (.pointer (some ⟨P, 0, none⟩))) rfl (by kernel_rfl) (by kernel_rfl) (by kernel_rfl) (by kernel_rfl) (fun _ _ _ h => h) (Or.inl ⟨by rfl, fun w hS => by go_simp⟩) ⟨rP8B, rL8B⟩ ?_
          simp [Act.put]
          refine TillLast.take (i := 9) (oi := _) (v := (.pointer (some ⟨P, 1, none⟩))) rfl (by kernel_rfl) (by kernel_rfl) (by kernel_rfl) (by kernel_rfl) (fun _ _ _ h => h) (Or.inl ⟨by rfl, fun w hS => by go_simp⟩) ⟨rP8B, rL8B⟩ ?_
          simp [Act.put]
          have zP8B := RowIs.fz rP8B 1
          have cP8B := RowIs.cell rP8B 1
          have lP8B := RowIs.lt rP8B
          simp at cP8B
          refine TillLast.step (i := 10) (by kernel_rfl) rfl (fun K hK => ?_)
          go_simp
          refine hK.out _ _ (fun h => absurd rfl h) ?_
          clear hK K
          refine TillLast.done (by kernel_rfl) ?_ _
          obtain ⟨w9B, hw9B⟩ : ∃ w9, w9 = w8B.setCell ⟨P, 1, none⟩ (.slice x8B ((N + 1) + 1) c8B) := ⟨_, rfl⟩
          try rw [← hw9B]
          have K89B : Chg (fun i => i = P) w8B w9B := by rw [hw9B]; exact Chg.setCell _ _ _ _
          have r9B : RowIs w9B P 60 #[.slice xf nf cf, .slice x8B ((N + 1) + 1) c8B, .int .i64 ((n : Int) + 1)] := by rw [hw9B]; exact rP8B.set1 _
          have hv8B : ∀ g, (Value.slice x8B ((N + 1) + 1) c8B).ownBlock = some g → (.slice x8A (N + 1) c8A : Value).ownBlock = some g ∨ w9A.heap.size ≤ g := fun g e => by
            have sB := KBTB.size
            rcases hat8B with h | h
            · exact .inl (h ▸ e)
            · rw [h] at e
              injection e with e
              exact .inr (by omega)
          have own9B := K89B.own own8B (fun g e h => (hv8B g e).elim (fun h' => (HRAB.out.vms g h').2 h) (fun h' => by have := HRAB.out.row.lt; omega))
          have C9B : Chg (fun i => i = P ∨ (.slice x8A (N + 1) c8A : Value).ownBlock = some i) w9A w9B := ((KBTB.mono (fun _ _ h => h.elim)).trans (K8B.mono (fun _ _ h => .inr h)) (fun i h => .inl h)).trans K89B (fun i h => .inl (.inl h))
          have RA9B := rlay_done HRAB.out HBFB.out haW.out rfl C9B (by rw [HNF.out]; exact r9B) (by rw [HN9.out]; exact own9B) hv8B
          clear hw9B K89B r9B own9B own8B hgrow8B hat8B K8B rP8B rL8B rPBB rLBB rNBB KBB KBTB rPXB rLXB KXB zP8B cP8B rPB lP8B HBFB HOWB
          
          have o10 : ∀ g, (Value.slice x8B (N + 1 + 1) c8B).ownBlock = some g → (Value.slice xv N cv).ownBlock = some g ∨ w.heap.size ≤ g := fun g h => (hv8B g h).elim (HO9.out g) (fun h => .inr (by omega))
          have C10 : Chg (fun i => i = P ∨ (Value.slice xv N cv).ownBlock = some i) w w9B := HC9.out.trans C9B (fun i h => h.elim (fun h => .inl (.inl h)) (fun h => (HO9.out i h).elim (fun h => .inl (.inr h)) .inr))
          go_wp2_with fail
          first | go_end0 | refine bodyPost_ret (results_none rfl _ _ _) rfl ?_
          refine ⟨rfl, .slice x8B (N + 1 + 1) c8B, _, _, C10, o10, fun g h => .inl (.inl h), fun g h => h.elim (HUP9.out g) (fun h => (o10 g h).elim (fun h => .inl (HA.out.vms g h).1) .inr), RA9B, ?_⟩
          rw [List.map_append, List.map_append, rput_tw HFE.out rfl rfl hmk.out]
          rfl
      · cases tw
        · skip
          have rPA : RowIs wA P 60 #[.slice xf nf cf, .slice xv N cv, .int .i64 n] := KA.row hR (fun h => h)
          have CA : Chg (fun i => i = P) w wA := KA.mono (fun i _ h => h.elim)
          have HMSA : Hid (∀ g, ms g → g < wA.heap.size) := fun g hg => Nat.lt_of_lt_of_le (HMS.out g hg) CA.size
          have fA0 := rFA.cell 0
          have zA := RowIs.fz rPA 2
          have pA2 := rPA.cell 2
          simp at fA0 pA2
          have lPA := rPA.lt
          have lFA := rFA.lt
          have hneF' : P ≠ w.heap.size := fun e => hneF e.symm
          skip
          go_wp2_with (at_builtin; (refine wpList_append_any _ rfl (.const (.slice none 0 0)) (.tmp 40) 44 rfl wA.heap.size 5 i (.int .u8 0) 1 1 Try.underlying44 hi hzz hs hbb rfl (by decide) (.slice none 0 0) 0 [] rfl (World.ownsRow_nil _ _ _ _) bx bl bc (bs.map (.int .u8)) rfl (by rw [List.length_map, HBL.out, Nat.mul_one]) (bodySrc (HBW.out _ (CA.trans (Chg.setCell wA P 2 _) (fun _ h => .inl h))).at).2 (oneCell_bytes _) (by simp [maxLen]; omega) (by omega) (by simp) ?_; intro v6 w6 own6 hgrow6 hat6; simp only [Nat.zero_add, List.nil_append] at own6; rw [HBL.out] at own6; obtain ⟨x6, c6, rfl, BF6⟩ := bodyOfOwn (ms := ms) own6 HMSA.out; have rF6 := (Chg.ofGrown hgrow6).row (rFA.far1 hneF) (fun e => by cases e); have rP6 := (Chg.ofGrown hgrow6).row (rPA.set2c _) (fun e => by cases e); have g1 := rF6.cell 1; have g2 := rF6.cell 2; have g3 := rF6.cell 3; simp at g1 g2 g3; have lF6 := rF6.lt))
          have C6 : Chg (fun i => i = P) w w6 := (CA.trans (Chg.setCell wA P 2 _) (fun i e => .inl e)).trans (Chg.ofGrown hgrow6) (fun i e => by cases e)
          have RA6 : RefAt w6 ms P xf cf fl ((n : Int) + 1) (.slice xv N cv) l := HA.out.count C6 (by rw [HNF.out]; exact rP6)
          clear own6 hgrow6 hat6 rPA rFA fA0 zA pA2 rP6 CA
          obtain ⟨E, d, hG0⟩ : ∃ E d, getF bs = (E, d) := ⟨_, _, rfl⟩
          have HG0 := Lib.hid hG0
          have HB6 := Lib.hid (HBW.out _ C6).at
          clear g1 g3
          go_wp2_with fail
          by_cases hE : E = 0
          · subst hE
            clear hG0
            ((with_reducible refine (rMarkYes _ bs HBY.out hlen _ HB6.out d HG0.out).mono ?_); rintro e' wM ⟨vM, rfl, bM, ownM⟩)
            obtain ⟨xM, cM, rfl, BFM⟩ := bodyOfOwn (ms := ms) ownM (fun g hg => Nat.lt_of_lt_of_le (HMS.out g hg) C6.size)
            have KM : Chg (fun _ => False) w6 wM := Chg.ofBelow bM
            have RAM := RA6.same KM
            have rFM := KM.row rF6 (fun h => h)
            have CM := C6.trans KM (fun i h => h.elim)
            have m1 := rFM.cell 1
            have m3 := rFM.cell 3
            simp at m1 m3
            have lFM := rFM.lt
            have hG0 := HG0.out
            have HGX := Lib.hid hG0
            clear hG0
            go_wp2_with fail
            have hG0 := HGX.out
            ((refine (rAdd now dl HNOW.out HDL.out _).mono ?_); rintro e' w' ⟨rfl, rfl⟩)
            go_wp2_with fail
            obtain ⟨w7, hw7⟩ : ∃ w7, w7 = wM.alloc (.cells #[.int .u64 (addI now dl), .slice xM (putD (markD d)).length cM] 127 (0, 0)) := ⟨_, rfl⟩
            try rw [← hw7]
            have K7 : Chg (fun _ => False) wM w7 := by rw [hw7]; exact Chg.alloc _ _
            have rL7 : RowIs w7 wM.heap.size 127 #[.int .u64 (addI now dl), .slice xM (putD (markD d)).length cM] := by rw [hw7]; exact RowIs.mk (heap_alloc_new wM _)
            clear hw7
            have RA7 := RefAt.same RAM K7
            have BF7 : BodyF w7 ms (.slice xM (putD (markD d)).length cM) (putD (markD d)) := BodyF.chg BFM K7 (fun _ _ h => h.elim) (fun _ _ h => h)
            have rF7 := K7.row rFM (fun h => h)
            have C7 := CM.trans K7 (fun i h => h.elim)
            have haW : Hid (W64 (addI now dl)) := Lib.hid (addI_W _ _ HNOW.out HDL.out)
            have HLM : Hid (¬ ms wM.heap.size) := fun h => Nat.lt_irrefl _ (RAM.msl _ h)
            have hmk : Hid ((if true = true then markF bs else bs) = (putD (markD d))) := by show _ = _; unfold markF; rw [hG0]; rfl
            have rPA : RowIs w7 P 60 #[.slice xf nf cf, .slice xv N cv, .int .i64 ((n : Int) + 1)] := by have := RA7.row; rwa [HNF.out] at this
            have HRAA := Lib.hid RA7
            have HBFA := Lib.hid BF7
            have HOWA := Lib.hid RA7.own
            rw [HN.out] at HOWA
            refine TillLast.begin (S := fun W => RowIs W P 60 #[.slice xf nf cf, .slice xv N cv, .int .i64 ((n : Int) + 1)] ∧ RowIs W wM.heap.size 127 #[.int .u64 (addI now dl), .slice xM (putD (markD d)).length cM]) 10 (by kernel_rfl) ?_
            obtain ⟨XA, hXA⟩ : ∃ X, X = w7.drew := ⟨_, rfl⟩
            have KXA : Chg (fun _ => False) w7 XA := by rw [hXA]; exact Chg.drew' (Chg.refl _ _)
            have rPXA := KXA.row rPA (fun h => h)
            have rLXA := KXA.row rL7 (fun h => h)
            rw [← hXA]
            clear hXA
            refine TillLast.take (i := 0) (oi := _) (v := (.pointer (some ⟨P, 0, none⟩))) rfl (by kernel_rfl) (by kernel_rfl) (by kernel_rfl) (by kernel_rfl) (fun _ _ _ h => h) (Or.inl ⟨by rfl, fun w hS => by go_simp⟩) ⟨rPXA, rLXA⟩ ?_
            simp [Act.put]
            refine TillLast.take (i := 1) (oi := _) (v := (.pointer (some ⟨P, 0, none⟩))) rfl (by kernel_rfl) (by kernel_rfl) (by kernel_rfl) (by kernel_rfl) (fun _ _ _ h => h) (Or.inl ⟨by rfl, fun w hS => by go_simp⟩) ⟨rPXA, rLXA⟩ ?_
            simp [Act.put]
            refine TillLast.take (i := 2) (oi := _) (v := (.pointer (some ⟨P, 0, none⟩))) rfl (by kernel_rfl) (by kernel_rfl) (by kernel_rfl) (by kernel_rfl) (fun _ _ _ h => h) (Or.inl ⟨by rfl, fun w hS => by go_simp⟩) ⟨rPXA, rLXA⟩ ?_
            simp [Act.put]
            refine TillLast.take (i := 3) (oi := _) (v := (.pointer (some ⟨P, 1, none⟩))) rfl (by kernel_rfl) (by kernel_rfl) (by kernel_rfl) (by kernel_rfl) (fun _ _ _ h => h) (Or.inl ⟨by rfl, fun w hS => by go_simp⟩) ⟨rPXA, rLXA⟩ ?_
            simp [Act.put]
            refine TillLast.take (i := 4) (oi := _) (v := (.slice xv N cv)) rfl (by kernel_rfl) (by kernel_rfl) (by kernel_rfl) (by kernel_rfl) (fun _ _ _ h => h) (Or.inl ⟨by rfl, fun w hS => by have hc1 := RowIs.cell hS.1 1; have hlt := RowIs.lt hS.1; simp at hc1; clear hS; go_simp⟩) ⟨rPXA, rLXA⟩ ?_
            simp [Act.put]
            refine TillLast.take (i := 5) (oi := _) (v := (.agg #[.int .u64 (addI now dl), .slice xM (putD (markD d)).length cM])) rfl (by kernel_rfl) (by kernel_rfl) (by kernel_rfl) (by kernel_rfl) (fun _ _ _ h => h) (Or.inl ⟨by rfl, fun w hS => by have hc0 := RowIs.cell hS.2 0; have hc1 := RowIs.cell hS.2 1; have hlt := RowIs.lt hS.2; simp at hc0 hc1; clear hS; go_simp⟩) ⟨rPXA, rLXA⟩ ?_
            simp [Act.put]
            refine TillLast.step (i := 6) (by kernel_rfl) rfl (fun K hK => ?_)
            go_simp
            obtain ⟨wBA, hwBA⟩ : ∃ wB, wB = XA.alloc (.cells #[.int .u64 (addI now dl), .slice xM (putD (markD d)).length cM] 127 (0, 0)) := ⟨_, rfl⟩
            try rw [← hwBA]
            have KBA : Chg (fun _ => False) XA wBA := by rw [hwBA]; exact Chg.alloc _ _
            have rPBA := KBA.row rPXA (fun h => h)
            have rLBA := KBA.row rLXA (fun h => h)
            have rNBA : RowIs wBA XA.heap.size 127 #[.int .u64 (addI now dl), .slice xM (putD (markD d)).length cM] := by rw [hwBA]; exact RowIs.mk (heap_alloc_new _ _)
            refine hK.out _ _ (fun _ => ⟨rPBA, rLBA⟩) ?_
            clear hK K hwBA
            have KBTA := KXA.trans KBA (fun _ h => h.elim)
            refine TillLast.step (i := 7) (by kernel_rfl) rfl (fun K hK => ?_)
            rw [if_pos (by rfl)]
            refine wp_append_any (.tmp 61) (.tmp 63) 58 rfl 0 127 i2 (.agg #[.int .u64 0, .slice none 0 0]) 2 32 Try.underlying58 hi2 hzz2 hs2 hbb2 rfl (by decide) (.slice xv N cv) N (flatI l) rfl (KBTA.own HOWA.out (fun _ _ h => h)) (some ⟨XA.heap.size, 0, none⟩) 1 1 [.int .u64 (addI now dl), .slice xM (putD (markD d)).length cM] rfl rfl (.inr ⟨_, rfl, one_news rNBA⟩) (one2 _ _ _ _) (by simp [maxLen]; omega) (by omega) (Nat.zero_le _) ?_
            intro v8 w8A own8A hgrow8A hat8A
            obtain ⟨x8A, c8A, rfl⟩ := own_slice own8A
            have K8A : Chg (fun i => (Value.slice xv N cv).ownBlock = some i) wBA w8A := Chg.ofGrown hgrow8A
            have rP8A := K8A.row rPBA (fun e => (HRAA.out.vms _ e).2 rfl)
            have rL8A := K8A.row rLBA (fun e => HLM.out (HRAA.out.vms _ e).1)
            simp [Act.put]
            refine hK.out _ _ (fun _ => ⟨rP8A, rL8A⟩) ?_
            clear hK K
            refine TillLast.take (i := 8) (oi := _) (v := (.pointer (some ⟨P, 0, none⟩))) rfl (by kernel_rfl) (by kernel_rfl) (by kernel_rfl) (by kernel_rfl) (fun _ _ _ h => h) (Or.inl ⟨by rfl, fun w hS => by go_simp⟩) ⟨rP8A, rL8A⟩ ?_
            simp [Act.put]
            refine TillLast.take (i := 9) (oi := _) (v := (.pointer (some ⟨P, 1, none⟩))) rfl (by kernel_rfl) (by kernel_rfl) (by kernel_rfl) (by kernel_rfl) (fun _ _ _ h => h) (Or.inl ⟨by rfl, fun w hS => by go_simp⟩) ⟨rP8A, rL8A⟩ ?_
            simp [Act.put]
            have zP8A := RowIs.fz rP8A 1
            have cP8A := RowIs.cell rP8A 1
            have lP8A := RowIs.lt rP8A
            simp at cP8A
            refine TillLast.step (i := 10) (by kernel_rfl) rfl (fun K hK => ?_)
            go_simp
            refine hK.out _ _ (fun h => absurd rfl h) ?_
            clear hK K
            refine TillLast.done (by kernel_rfl) ?_ _
            obtain ⟨w9A, hw9A⟩ : ∃ w9, w9 = w8A.setCell ⟨P, 1, none⟩ (.slice x8A (N + 1) c8A) := ⟨_, rfl⟩
            try rw [← hw9A]
            have K89A : Chg (fun i => i = P) w8A w9A := by rw [hw9A]; exact Chg.setCell _ _ _ _
            have r9A : RowIs w9A P 60 #[.slice xf nf cf, .slice x8A (N + 1) c8A, .int .i64 ((n : Int) + 1)] := by rw [hw9A]; exact rP8A.set1 _
            have hv8A : ∀ g, (Value.slice x8A (N + 1) c8A).ownBlock = some g → (.slice xv N cv : Value).ownBlock = some g ∨ w7.heap.size ≤ g := fun g e => by
              have sB := KBTA.size
              rcases hat8A with h | h
              · exact .inl (h ▸ e)
              · rw [h] at e
                injection e with e
                exact .inr (by omega)
            have own9A := K89A.own own8A (fun g e h => (hv8A g e).elim (fun h' => (HRAA.out.vms g h').2 h) (fun h' => by have := HRAA.out.row.lt; omega))
            have C9A : Chg (fun i => i = P ∨ (.slice xv N cv : Value).ownBlock = some i) w7 w9A := ((KBTA.mono (fun _ _ h => h.elim)).trans (K8A.mono (fun _ _ h => .inr h)) (fun i h => .inl h)).trans K89A (fun i h => .inl (.inl h))
            have RA9A := rlay_done HRAA.out HBFA.out haW.out rfl C9A (by rw [HNF.out]; exact r9A) (by rw [HN.out]; exact own9A) hv8A
            clear hw9A K89A r9A own9A own8A hgrow8A hat8A K8A rP8A rL8A rPBA rLBA rNBA KBA KBTA rPXA rLXA KXA zP8A cP8A rPA lP8A HBFA HOWA
            have sX7 := C7.size
            have hvw : ∀ g, (Value.slice xv N cv).ownBlock = some g → ms g ∧ g ≠ P := HA.out.vms
            have rF9 := C9A.row rF7 (fun e => e.elim (fun e => hneF e) (fun e => Nat.lt_irrefl _ (HMS.out _ (hvw _ e).1)))
            have t1 := rF9.cell 1
            have t3 := rF9.cell 3
            simp at t1 t3
            have lF9 := rF9.lt
            have C9 : Chg (fun i => i = P ∨ (Value.slice xv N cv).ownBlock = some i) w w9A := (C7.mono (fun i _ e => .inl e)).trans C9A (fun i h => .inl h)
            have o9 : ∀ g, (Value.slice x8A (N + 1) c8A).ownBlock = some g → (Value.slice xv N cv).ownBlock = some g ∨ w.heap.size ≤ g := fun g h => (hv8A g h).elim .inl (fun h => .inr (Nat.le_trans sX7 h))
            have up9 : ∀ g, (ms g ∨ (Value.slice x8A (N + 1) c8A).ownBlock = some g) → ms g ∨ w.heap.size ≤ g := fun g h => h.elim .inl (fun h => (o9 g h).elim (fun h => .inl (hvw g h).1) .inr)
            have hLA := rL7.lt
            clear rF7 rF9
            have FIN : ∃ v' l' ms', Chg (fun g => g = P ∨ (Value.slice xv N cv).ownBlock = some g) w w9A ∧ (∀ g, v'.ownBlock = some g → (Value.slice xv N cv).ownBlock = some g ∨ w.heap.size ≤ g) ∧ (∀ g, ms g → ms' g) ∧ (∀ g, ms' g → ms g ∨ w.heap.size ≤ g) ∧ RefAt w9A ms' P xf cf fl ((n : Int) + 1) v' l' ∧ l'.map pr = rputS fl n (l.map pr) now bs := ⟨Value.slice x8A (N + 1) c8A, l ++ [(⟨addI now dl, .slice xM (putD (markD d)).length cM, (putD (markD d))⟩ : Itm)], (fun g => ms g ∨ (Value.slice x8A (N + 1) c8A).ownBlock = some g), C9, o9, (fun g h => .inl h), up9, RA9A, by rw [List.map_append, rput_no HFE.out rfl rfl hmk.out]; rfl⟩
            clear RA9A C9 o9 up9
            go_wp2_with fail
            first | go_end0 | refine bodyPost_ret (results_none rfl _ _ _) rfl ?_
            first | exact ⟨rfl, FIN⟩ | (obtain ⟨v', l', ms', f1, f2, f3, f4, f5, f6⟩ := FIN; exact ⟨rfl, f1, v', f2, l', ms', f3, f4, f5, f6⟩) | (obtain ⟨v', l', ms', f1, f2, f3, f4, f5, f6⟩ := FIN; exact ⟨rfl, f1, v', f2, l', f6, ms', f3, f4, f5⟩) | (obtain ⟨v', l', ms', f1, f2, f3, f4, f5, f6⟩ := FIN; exact ⟨rfl, f1, v', f2, l', ⟨ms', f3, f4, f5⟩, f6⟩)
          · clear hG0
            ((with_reducible refine (rMarkNo _ bs HBY.out hlen _ HB6.out E d HG0.out hE).mono ?_); rintro e' wM ⟨rfl, bM⟩)
            have KM : Chg (fun _ => False) w6 wM := Chg.ofBelow bM
            have RAM := RA6.same KM
            have rFM := KM.row rF6 (fun h => h)
            have CM := C6.trans KM (fun i h => h.elim)
            have m1 := rFM.cell 1
            have m3 := rFM.cell 3
            simp at m1 m3
            have lFM := rFM.lt
            have BFM : BodyF wM ms (.slice x6 bs.length c6) bs := BF6.chg KM (fun _ _ h => h.elim) (fun _ _ h => h)
            go_wp2_with fail
            have hG0 := HG0.out
            ((refine (rAdd now dl HNOW.out HDL.out _).mono ?_); rintro e' w' ⟨rfl, rfl⟩)
            go_wp2_with fail
            obtain ⟨w7, hw7⟩ : ∃ w7, w7 = wM.alloc (.cells #[.int .u64 (addI now dl), .slice x6 bs.length c6] 127 (0, 0)) := ⟨_, rfl⟩
            try rw [← hw7]
            have K7 : Chg (fun _ => False) wM w7 := by rw [hw7]; exact Chg.alloc _ _
            have rL7 : RowIs w7 wM.heap.size 127 #[.int .u64 (addI now dl), .slice x6 bs.length c6] := by rw [hw7]; exact RowIs.mk (heap_alloc_new wM _)
            clear hw7
            have RA7 := RefAt.same RAM K7
            have BF7 : BodyF w7 ms (.slice x6 bs.length c6) bs := BodyF.chg BFM K7 (fun _ _ h => h.elim) (fun _ _ h => h)
            have rF7 := K7.row rFM (fun h => h)
            have C7 := CM.trans K7 (fun i h => h.elim)
            have haW : Hid (W64 (addI now dl)) := Lib.hid (addI_W _ _ HNOW.out HDL.out)
            have HLM : Hid (¬ ms wM.heap.size) := fun h => Nat.lt_irrefl _ (RAM.msl _ h)
            have hmk : Hid ((if true = true then markF bs else bs) = bs) := by show _ = _; unfold markF; rw [hG0]; simp [hE]
            have rPA : RowIs w7 P 60 #[.slice xf nf cf, .slice xv N cv, .int .i64 ((n : Int) + 1)] := by have := RA7.row; rwa [HNF.out] at this
            have HRAA := Lib.hid RA7
            have HBFA := Lib.hid BF7
            have HOWA := Lib.hid RA7.own
            rw [HN.out] at HOWA
            refine TillLast.begin (S := fun W => RowIs W P 60 #[.slice xf nf cf, .slice xv N cv, .int .i64 ((n : Int) + 1)] ∧ RowIs W wM.heap.size 127 #[.int .u64 (addI now dl), .slice x6 bs.length c6]) 10 (by kernel_rfl) ?_
            obtain ⟨XA, hXA⟩ : ∃ X, X = w7.drew := ⟨_, rfl⟩
            have KXA : Chg (fun _ => False) w7 XA := by rw [hXA]; exact Chg.drew' (Chg.refl _ _)
            have rPXA := KXA.row rPA (fun h => h)
            have rLXA := KXA.row rL7 (fun h => h)
            rw [← hXA]
            clear hXA
            refine TillLast.take (i := 0) (oi := _) (v := (.pointer (some ⟨P, 0, none⟩))) rfl (by kernel_rfl) (by kernel_rfl) (by kernel_rfl) (by kernel_rfl) (fun _ _ _ h => h) (Or.inl ⟨by rfl, fun w hS => by go_simp⟩) ⟨rPXA, rLXA⟩ ?_
            simp [Act.put]
            refine TillLast.take (i := 1) (oi := _) (v := (.pointer (some ⟨P, 0, none⟩))) rfl (by kernel_rfl) (by kernel_rfl) (by kernel_rfl) (by kernel_rfl) (fun _ _ _ h => h) (Or.inl ⟨by rfl, fun w hS => by go_simp⟩) ⟨rPXA, rLXA⟩ ?_
            simp [Act.put]
            refine TillLast.take (i := 2) (oi := _) (v := (.pointer (some ⟨P, 0, none⟩))) rfl (by kernel_rfl) (by kernel_rfl) (by kernel_rfl) (by kernel_rfl) (fun _ _ _ h => h) (Or.inl ⟨by rfl, fun w hS => by go_simp⟩) ⟨rPXA, rLXA⟩ ?_
            simp [Act.put]
            refine TillLast.take (i := 3) (oi := _) (v := (.pointer (some ⟨P, 1, none⟩))) rfl (by kernel_rfl) (by kernel_rfl) (by kernel_rfl) (by kernel_rfl) (fun _ _ _ h => h) (Or.inl ⟨by rfl, fun w hS => by go_simp⟩) ⟨rPXA, rLXA⟩ ?_
            simp [Act.put]
            refine TillLast.take (i := 4) (oi := _) (v := (.slice xv N cv)) rfl (by kernel_rfl) (by kernel_rfl) (by kernel_rfl) (by kernel_rfl) (fun _ _ _ h => h) (Or.inl ⟨by rfl, fun w hS => by have hc1 := RowIs.cell hS.1 1; have hlt := RowIs.lt hS.1; simp at hc1; clear hS; go_simp⟩) ⟨rPXA, rLXA⟩ ?_
            simp [Act.put]
            refine TillLast.take (i := 5) (oi := _) (v := (.agg #[.int .u64 (addI now dl), .slice x6 bs.length c6])) rfl (by kernel_rfl) (by kernel_rfl) (by kernel_rfl) (by kernel_rfl) (fun _ _ _ h => h) (Or.inl ⟨by rfl, fun w hS => by have hc0 := RowIs.cell hS.2 0; have hc1 := RowIs.cell hS.2 1; have hlt := RowIs.lt hS.2; simp at hc0 hc1; clear hS; go_simp⟩) ⟨rPXA, rLXA⟩ ?_
            simp [Act.put]
            refine TillLast.step (i := 6) (by kernel_rfl) rfl (fun K hK => ?_)
            go_simp
            obtain ⟨wBA, hwBA⟩ : ∃ wB, wB = XA.alloc (.cells #[.int .u64 (addI now dl), .slice x6 bs.length c6] 127 (0, 0)) := ⟨_, rfl⟩
            try rw [← hwBA]
            have KBA : Chg (fun _ => False) XA wBA := by rw [hwBA]; exact Chg.alloc _ _
            have rPBA := KBA.row rPXA (fun h => h)
            have rLBA := KBA.row rLXA (fun h => h)
            have rNBA : RowIs wBA XA.heap.size 127 #[.int .u64 (addI now dl), .slice x6 bs.length c6] := by rw [hwBA]; exact RowIs.mk (heap_alloc_new _ _)
            refine hK.out _ _ (fun _ => ⟨rPBA, rLBA⟩) ?_
            clear hK K hwBA
            have KBTA := KXA.trans KBA (fun _ h => h.elim)
            refine TillLast.step (i := 7) (by kernel_rfl) rfl (fun K hK => ?_)
            rw [if_pos (by rfl)]
            refine wp_append_any (.tmp 61) (.tmp 63) 58 rfl 0 127 i2 (.agg #[.int .u64 0, .slice none 0 0]) 2 32 Try.underlying58 hi2 hzz2 hs2 hbb2 rfl (by decide) (.slice xv N cv) N (flatI l) rfl (KBTA.own HOWA.out (fun _ _ h => h)) (some ⟨XA.heap.size, 0, none⟩) 1 1 [.int .u64 (addI now dl), .slice x6 bs.length c6] rfl rfl (.inr ⟨_, rfl, one_news rNBA⟩) (one2 _ _ _ _) (by simp [maxLen]; omega) (by omega) (Nat.zero_le _) ?_
            intro v8 w8A own8A hgrow8A hat8A
            obtain ⟨x8A, c8A, rfl⟩ := own_slice own8A
            have K8A : Chg (fun i => (Value.slice xv N cv).ownBlock = some i) wBA w8A := Chg.ofGrown hgrow8A
            have rP8A := K8A.row rPBA (fun e => (HRAA.out.vms _ e).2 rfl)
            have rL8A := K8A.row rLBA (fun e => HLM.out (HRAA.out.vms _ e).1)
            simp [Act.put]
            refine hK.out _ _ (fun _ => ⟨rP8A, rL8A⟩) ?_
            clear hK K
            refine TillLast.take (i := 8) (oi := _) (v := (.pointer (some ⟨P, 0, none⟩))) rfl (by kernel_rfl) (by kernel_rfl) (by kernel_rfl) (by kernel_rfl) (fun _ _ _ h => h) (Or.inl ⟨by rfl, fun w hS => by go_simp⟩) ⟨rP8A, rL8A⟩ ?_
            simp [Act.put]
            refine TillLast.take (i := 9) (oi := _) (v := (.pointer (some ⟨P, 1, none⟩))) rfl (by kernel_rfl) (by kernel_rfl) (by kernel_rfl) (by kernel_rfl) (fun _ _ _ h => h) (Or.inl ⟨by rfl, fun w hS => by go_simp⟩) ⟨rP8A, rL8A⟩ ?_
            simp [Act.put]
            have zP8A := RowIs.fz rP8A 1
            have cP8A := RowIs.cell rP8A 1
            have lP8A := RowIs.lt rP8A
            simp at cP8A
            refine TillLast.step (i := 10) (by kernel_rfl) rfl (fun K hK => ?_)
            go_simp
            refine hK.out _ _ (fun h => absurd rfl h) ?_
            clear hK K
            refine TillLast.done (by kernel_rfl) ?_ _
            obtain ⟨w9A, hw9A⟩ : ∃ w9, w9 = w8A.setCell ⟨P, 1, none⟩ (.slice x8A (N + 1) c8A) := ⟨_, rfl⟩
            try rw [← hw9A]
            have K89A : Chg (fun i => i = P) w8A w9A := by rw [hw9A]; exact Chg.setCell _ _ _ _
            have r9A : RowIs w9A P 60 #[.slice xf nf cf, .slice x8A (N + 1) c8A, .int .i64 ((n : Int) + 1)] := by rw [hw9A]; exact rP8A.set1 _
            have hv8A : ∀ g, (Value.slice x8A (N + 1) c8A).ownBlock = some g → (.slice xv N cv : Value).ownBlock = some g ∨ w7.heap.size ≤ g := fun g e => by
              have sB := KBTA.size
              rcases hat8A with h | h
              · exact .inl (h ▸ e)
              · rw [h] at e
                injection e with e
                exact .inr (by omega)
            have own9A := K89A.own own8A (fun g e h => (hv8A g e).elim (fun h' => (HRAA.out.vms g h').2 h) (fun h' => by have := HRAA.out.row.lt; omega))
            have C9A : Chg (fun i => i = P ∨ (.slice xv N cv : Value).ownBlock = some i) w7 w9A := ((KBTA.mono (fun _ _ h => h.elim)).trans (K8A.mono (fun _ _ h => .inr h)) (fun i h => .inl h)).trans K89A (fun i h => .inl (.inl h))
            have RA9A := rlay_done HRAA.out HBFA.out haW.out rfl C9A (by rw [HNF.out]; exact r9A) (by rw [HN.out]; exact own9A) hv8A
            clear hw9A K89A r9A own9A own8A hgrow8A hat8A K8A rP8A rL8A rPBA rLBA rNBA KBA KBTA rPXA rLXA KXA zP8A cP8A rPA lP8A HBFA HOWA
            have sX7 := C7.size
            have hvw : ∀ g, (Value.slice xv N cv).ownBlock = some g → ms g ∧ g ≠ P := HA.out.vms
            have rF9 := C9A.row rF7 (fun e => e.elim (fun e => hneF e) (fun e => Nat.lt_irrefl _ (HMS.out _ (hvw _ e).1)))
            have t1 := rF9.cell 1
            have t3 := rF9.cell 3
            simp at t1 t3
            have lF9 := rF9.lt
            have C9 : Chg (fun i => i = P ∨ (Value.slice xv N cv).ownBlock = some i) w w9A := (C7.mono (fun i _ e => .inl e)).trans C9A (fun i h => .inl h)
            have o9 : ∀ g, (Value.slice x8A (N + 1) c8A).ownBlock = some g → (Value.slice xv N cv).ownBlock = some g ∨ w.heap.size ≤ g := fun g h => (hv8A g h).elim .inl (fun h => .inr (Nat.le_trans sX7 h))
            have up9 : ∀ g, (ms g ∨ (Value.slice x8A (N + 1) c8A).ownBlock = some g) → ms g ∨ w.heap.size ≤ g := fun g h => h.elim .inl (fun h => (o9 g h).elim (fun h => .inl (hvw g h).1) .inr)
            have hLA := rL7.lt
            clear rF7 rF9
            have FIN : ∃ v' l' ms', Chg (fun g => g = P ∨ (Value.slice xv N cv).ownBlock = some g) w w9A ∧ (∀ g, v'.ownBlock = some g → (Value.slice xv N cv).ownBlock = some g ∨ w.heap.size ≤ g) ∧ (∀ g, ms g → ms' g) ∧ (∀ g, ms' g → ms g ∨ w.heap.size ≤ g) ∧ RefAt w9A ms' P xf cf fl ((n : Int) + 1) v' l' ∧ l'.map pr = rputS fl n (l.map pr) now bs := ⟨Value.slice x8A (N + 1) c8A, l ++ [(⟨addI now dl, .slice x6 bs.length c6, bs⟩ : Itm)], (fun g => ms g ∨ (Value.slice x8A (N + 1) c8A).ownBlock = some g), C9, o9, (fun g h => .inl h), up9, RA9A, by rw [List.map_append, rput_no HFE.out rfl rfl hmk.out]; rfl⟩
            clear RA9A C9 o9 up9
            go_wp2_with fail
            first | go_end0 | refine bodyPost_ret (results_none rfl _ _ _) rfl ?_
            first | exact ⟨rfl, FIN⟩ | (obtain ⟨v', l', ms', f1, f2, f3, f4, f5, f6⟩ := FIN; exact ⟨rfl, f1, v', f2, l', ms', f3, f4, f5, f6⟩) | (obtain ⟨v', l', ms', f1, f2, f3, f4, f5, f6⟩ := FIN; exact ⟨rfl, f1, v', f2, l', f6, ms', f3, f4, f5⟩) | (obtain ⟨v', l', ms', f1, f2, f3, f4, f5, f6⟩ := FIN; exact ⟨rfl, f1, v', f2, l', ⟨ms', f3, f4, f5⟩, f6⟩)
        · skip
          have rPA : RowIs wA P 60 #[.slice xf nf cf, .slice xv N cv, .int .i64 n] := KA.row hR (fun h => h)
          have CA : Chg (fun i => i = P) w wA := KA.mono (fun i _ h => h.elim)
          have HMSA : Hid (∀ g, ms g → g < wA.heap.size) := fun g hg => Nat.lt_of_lt_of_le (HMS.out g hg) CA.size
          have fA0 := rFA.cell 0
          have zA := RowIs.fz rPA 2
          have pA2 := rPA.cell 2
          simp at fA0 pA2
          have lPA := rPA.lt
          have lFA := rFA.lt
          have hneF' : P ≠ w.heap.size := fun e => hneF e.symm
          skip
          go_wp2_with (at_builtin; (refine wpList_append_any _ rfl (.const (.slice none 0 0)) (.tmp 40) 44 rfl wA.heap.size 5 i (.int .u8 0) 1 1 Try.underlying44 hi hzz hs hbb rfl (by decide) (.slice none 0 0) 0 [] rfl (World.ownsRow_nil _ _ _ _) bx bl bc (bs.map (.int .u8)) rfl (by rw [List.length_map, HBL.out, Nat.mul_one]) (bodySrc (HBW.out _ (CA.trans (Chg.setCell wA P 2 _) (fun _ h => .inl h))).at).2 (oneCell_bytes _) (by simp [maxLen]; omega) (by omega) (by simp) ?_; intro v6 w6 own6 hgrow6 hat6; simp only [Nat.zero_add, List.nil_append] at own6; rw [HBL.out] at own6; obtain ⟨x6, c6, rfl, BF6⟩ := bodyOfOwn (ms := ms) own6 HMSA.out; have rF6 := (Chg.ofGrown hgrow6).row (rFA.far1 hneF) (fun e => by cases e); have rP6 := (Chg.ofGrown hgrow6).row (rPA.set2c _) (fun e => by cases e); have g1 := rF6.cell 1; have g2 := rF6.cell 2; have g3 := rF6.cell 3; simp at g1 g2 g3; have lF6 := rF6.lt))
          have C6 : Chg (fun i => i = P) w w6 := (CA.trans (Chg.setCell wA P 2 _) (fun i e => .inl e)).trans (Chg.ofGrown hgrow6) (fun i e => by cases e)
          have RA6 : RefAt w6 ms P xf cf fl ((n : Int) + 1) (.slice xv N cv) l := HA.out.count C6 (by rw [HNF.out]; exact rP6)
          clear own6 hgrow6 hat6 rPA rFA fA0 zA pA2 rP6 CA
          obtain ⟨E, d, hG0⟩ : ∃ E d, getF bs = (E, d) := ⟨_, _, rfl⟩
          have HG0 := Lib.hid hG0
          have HB6 := Lib.hid (HBW.out _ C6).at
          clear g1 g3
          go_wp2_with fail
          by_cases hE : E = 0
          · subst hE
            clear hG0
            ((with_reducible refine (rMarkYes _ bs HBY.out hlen _ HB6.out d HG0.out).mono ?_); rintro e' wM ⟨vM, rfl, bM, ownM⟩)
            obtain ⟨xM, cM, rfl, BFM⟩ := bodyOfOwn (ms := ms) ownM (fun g hg => Nat.lt_of_lt_of_le (HMS.out g hg) C6.size)
            have KM : Chg (fun _ => False) w6 wM := Chg.ofBelow bM
            have RAM := RA6.same KM
            have rFM := KM.row rF6 (fun h => h)
            have CM := C6.trans KM (fun i h => h.elim)
            have m1 := rFM.cell 1
            have m3 := rFM.cell 3
            simp at m1 m3
            have lFM := rFM.lt
            have hG0 := HG0.out
            have HGX := Lib.hid hG0
            clear hG0
            go_wp2_with fail
            have hG0 := HGX.out
            ((refine (rAdd now dl HNOW.out HDL.out _).mono ?_); rintro e' w' ⟨rfl, rfl⟩)
            go_wp2_with fail
            obtain ⟨w7, hw7⟩ : ∃ w7, w7 = wM.alloc (.cells #[.int .u64 (addI now dl), .slice xM (putD (markD d)).length cM] 127 (0, 0)) := ⟨_, rfl⟩
            try rw [← hw7]
            have K7 : Chg (fun _ => False) wM w7 := by rw [hw7]; exact Chg.alloc _ _
            have rL7 : RowIs w7 wM.heap.size 127 #[.int .u64 (addI now dl), .slice xM (putD (markD d)).length cM] := by rw [hw7]; exact RowIs.mk (heap_alloc_new wM _)
            clear hw7
            have RA7 := RefAt.same RAM K7
            have BF7 : BodyF w7 ms (.slice xM (putD (markD d)).length cM) (putD (markD d)) := BodyF.chg BFM K7 (fun _ _ h => h.elim) (fun _ _ h => h)
            have rF7 := K7.row rFM (fun h => h)
            have C7 := CM.trans K7 (fun i h => h.elim)
            have haW : Hid (W64 (addI now dl)) := Lib.hid (addI_W _ _ HNOW.out HDL.out)
            have HLM : Hid (¬ ms wM.heap.size) := fun h => Nat.lt_irrefl _ (RAM.msl _ h)
            have hmk : Hid ((if true = true then markF bs else bs) = (putD (markD d))) := by show _ = _; unfold markF; rw [hG0]; rfl
            have rPA : RowIs w7 P 60 #[.slice xf nf cf, .slice xv N cv, .int .i64 ((n : Int) + 1)] := by have := RA7.row; rwa [HNF.out] at this
            have HRAA := Lib.hid RA7
            have HBFA := Lib.hid BF7
            have HOWA := Lib.hid RA7.own
            rw [HN.out] at HOWA
            refine TillLast.begin (S := fun W => RowIs W P 60 #[.slice xf nf cf, .slice xv N cv, .int .i64 ((n : Int) + 1)] ∧ RowIs W wM.heap.size 127 #[.int .u64 (addI now dl), .slice xM (putD (markD d)).length cM]) 10 (by kernel_rfl) ?_
            obtain ⟨XA, hXA⟩ : ∃ X, X = w7.drew := ⟨_, rfl⟩
            have KXA : Chg (fun _ => False) w7 XA := by rw [hXA]; exact Chg.drew' (Chg.refl _ _)
            have rPXA := KXA.row rPA (fun h => h)
            have rLXA := KXA.row rL7 (fun h => h)
            rw [← hXA]
            clear hXA
            refine TillLast.take (i := 0) (oi := _) (v := (.pointer (some ⟨P, 0, none⟩))) rfl (by kernel_rfl) (by kernel_rfl) (by kernel_rfl) (by kernel_rfl) (fun _ _ _ h => h) (Or.inl ⟨by rfl, fun w hS => by go_simp⟩) ⟨rPXA, rLXA⟩ ?_
            simp [Act.put]
            refine TillLast.take (i := 1) (oi := _) (v := (.pointer (some ⟨P, 0, none⟩))) rfl (by kernel_rfl) (by kernel_rfl) (by kernel_rfl) (by kernel_rfl) (fun _ _ _ h => h) (Or.inl ⟨by rfl, fun w hS => by go_simp⟩) ⟨rPXA, rLXA⟩ ?_
            simp [Act.put]
            refine TillLast.take (i := 2) (oi := _) (v := (.pointer (some ⟨P, 0, none⟩))) rfl (by kernel_rfl) (by kernel_rfl) (by kernel_rfl) (by kernel_rfl) (fun _ _ _ h => h) (Or.inl ⟨by rfl, fun w hS => by go_simp⟩) ⟨rPXA, rLXA⟩ ?_
            simp [Act.put]
            refine TillLast.take (i := 3) (oi := _) (v := (.pointer (some ⟨P, 1, none⟩))) rfl (by kernel_rfl) (by kernel_rfl) (by kernel_rfl) (by kernel_rfl) (fun _ _ _ h => h) (Or.inl ⟨by rfl, fun w hS => by go_simp⟩) ⟨rPXA, rLXA⟩ ?_
            simp [Act.put]
            refine TillLast.take (i := 4) (oi := _) (v := (.slice xv N cv)) rfl (by kernel_rfl) (by kernel_rfl) (by kernel_rfl) (by kernel_rfl) (fun _ _ _ h => h) (Or.inl ⟨by rfl, fun w hS => by have hc1 := RowIs.cell hS.1 1; have hlt := RowIs.lt hS.1; simp at hc1; clear hS; go_simp⟩) ⟨rPXA, rLXA⟩ ?_
            simp [Act.put]
            refine TillLast.take (i := 5) (oi := _) (v := (.agg #[.int .u64 (addI now dl), .slice xM (putD (markD d)).length cM])) rfl (by kernel_rfl) (by kernel_rfl) (by kernel_rfl) (by kernel_rfl) (fun _ _ _ h => h) (Or.inl ⟨by rfl, fun w hS => by have hc0 := RowIs.cell hS.2 0; have hc1 := RowIs.cell hS.2 1; have hlt := RowIs.lt hS.2; simp at hc0 hc1; clear hS; go_simp⟩) ⟨rPXA, rLXA⟩ ?_
            simp [Act.put]
            refine TillLast.step (i := 6) (by kernel_rfl) rfl (fun K hK => ?_)
            go_simp
            obtain ⟨wBA, hwBA⟩ : ∃ wB, wB = XA.alloc (.cells #[.int .u64 (addI now dl), .slice xM (putD (markD d)).length cM] 127 (0, 0)) := ⟨_, rfl⟩
            try rw [← hwBA]
            have KBA : Chg (fun _ => False) XA wBA := by rw [hwBA]; exact Chg.alloc _ _
            have rPBA := KBA.row rPXA (fun h => h)
            have rLBA := KBA.row rLXA (fun h => h)
            have rNBA : RowIs wBA XA.heap.size 127 #[.int .u64 (addI now dl), .slice xM (putD (markD d)).length cM] := by rw [hwBA]; exact RowIs.mk (heap_alloc_new _ _)
            refine hK.out _ _ (fun _ => ⟨rPBA, rLBA⟩) ?_
            clear hK K hwBA
            have KBTA := KXA.trans KBA (fun _ h => h.elim)
            refine TillLast.step (i := 7) (by kernel_rfl) rfl (fun K hK => ?_)
            rw [if_pos (by rfl)]
            refine wp_append_any (.tmp 61) (.tmp 63) 58 rfl 0 127 i2 (.agg #[.int .u64 0, .slice none 0 0]) 2 32 Try.underlying58 hi2 hzz2 hs2 hbb2 rfl (by decide) (.slice xv N cv) N (flatI l) rfl (KBTA.own HOWA.out (fun _ _ h => h)) (some ⟨XA.heap.size, 0, none⟩) 1 1 [.int .u64 (addI now dl), .slice xM (putD (markD d)).length cM] rfl rfl (.inr ⟨_, rfl, one_news rNBA⟩) (one2 _ _ _ _) (by simp [maxLen]; omega) (by omega) (Nat.zero_le _) ?_
            intro v8 w8A own8A hgrow8A hat8A
            obtain ⟨x8A, c8A, rfl⟩ := own_slice own8A
            have K8A : Chg (fun i => (Value.slice xv N cv).ownBlock = some i) wBA w8A := Chg.ofGrown hgrow8A
            have rP8A := K8A.row rPBA (fun e => (HRAA.out.vms _ e).2 rfl)
            have rL8A := K8A.row rLBA (fun e => HLM.out (HRAA.out.vms _ e).1)
            simp [Act.put]
            refine hK.out _ _ (fun _ => ⟨rP8A, rL8A⟩) ?_
            clear hK K
            refine TillLast.take (i := 8) (oi := _) (v := (.pointer (some ⟨P, 0, none⟩))) rfl (by kernel_rfl) (by kernel_rfl) (by kernel_rfl) (by kernel_rfl) (fun _ _ _ h => h) (Or.inl ⟨by rfl, fun w hS => by go_simp⟩) ⟨rP8A, rL8A⟩ ?_
            simp [Act.put]
            refine TillLast.take (i := 9) (oi := _) (v := (.pointer (some ⟨P, 1, none⟩))) rfl (by kernel_rfl) (by kernel_rfl) (by kernel_rfl) (by kernel_rfl) (fun _ _ _ h => h) (Or.inl ⟨by rfl, fun w hS => by go_simp⟩) ⟨rP8A, rL8A⟩ ?_
            simp [Act.put]
            have zP8A := RowIs.fz rP8A 1
            have cP8A := RowIs.cell rP8A 1
            have lP8A := RowIs.lt rP8A
            simp at cP8A
            refine TillLast.step (i := 10) (by kernel_rfl) rfl (fun K hK => ?_)
            go_simp
            refine hK.out _ _ (fun h => absurd rfl h) ?_
            clear hK K
            refine TillLast.done (by kernel_rfl) ?_ _
            obtain ⟨w9A, hw9A⟩ : ∃ w9, w9 = w8A.setCell ⟨P, 1, none⟩ (.slice x8A (N + 1) c8A) := ⟨_, rfl⟩
            try rw [← hw9A]
            have K89A : Chg (fun i => i = P) w8A w9A := by rw [hw9A]; exact Chg.setCell _ _ _ _
            have r9A : RowIs w9A P 60 #[.slice xf nf cf, .slice x8A (N + 1) c8A, .int .i64 ((n : Int) + 1)] := by rw [hw9A]; exact rP8A.set1 _
            have hv8A : ∀ g, (Value.slice x8A (N + 1) c8A).ownBlock = some g → (.slice xv N cv : Value).ownBlock = some g ∨ w7.heap.size ≤ g := fun g e => by
              have sB := KBTA.size
              rcases hat8A with h | h
              · exact .inl (h ▸ e)
              · rw [h] at e
                injection e with e
                exact .inr (by omega)
            have own9A := K89A.own own8A (fun g e h => (hv8A g e).elim (fun h' => (HRAA.out.vms g h').2 h) (fun h' => by have := HRAA.out.row.lt; omega))
            have C9A : Chg (fun i => i = P ∨ (.slice xv N cv : Value).ownBlock = some i) w7 w9A := ((KBTA.mono (fun _ _ h => h.elim)).trans (K8A.mono (fun _ _ h => .inr h)) (fun i h => .inl h)).trans K89A (fun i h => .inl (.inl h))
            have RA9A := rlay_done HRAA.out HBFA.out haW.out rfl C9A (by rw [HNF.out]; exact r9A) (by rw [HN.out]; exact own9A) hv8A
            clear hw9A K89A r9A own9A own8A hgrow8A hat8A K8A rP8A rL8A rPBA rLBA rNBA KBA KBTA rPXA rLXA KXA zP8A cP8A rPA lP8A HBFA HOWA
            have sX7 := C7.size
            have hvw : ∀ g, (Value.slice xv N cv).ownBlock = some g → ms g ∧ g ≠ P := HA.out.vms
            have rF9 := C9A.row rF7 (fun e => e.elim (fun e => hneF e) (fun e => Nat.lt_irrefl _ (HMS.out _ (hvw _ e).1)))
            have t1 := rF9.cell 1
            have t3 := rF9.cell 3
            simp at t1 t3
            have lF9 := rF9.lt
            have C9 : Chg (fun i => i = P ∨ (Value.slice xv N cv).ownBlock = some i) w w9A := (C7.mono (fun i _ e => .inl e)).trans C9A (fun i h => .inl h)
            have o9 : ∀ g, (Value.slice x8A (N + 1) c8A).ownBlock = some g → (Value.slice xv N cv).ownBlock = some g ∨ w.heap.size ≤ g := fun g h => (hv8A g h).elim .inl (fun h => .inr (Nat.le_trans sX7 h))
            have up9 : ∀ g, (ms g ∨ (Value.slice x8A (N + 1) c8A).ownBlock = some g) → ms g ∨ w.heap.size ≤ g := fun g h => h.elim .inl (fun h => (o9 g h).elim (fun h => .inl (hvw g h).1) .inr)
            have hLA := rL7.lt
            clear rF7 rF9
            have HMS9 : Hid (∀ i, i < w7.heap.size → (ms i ∨ (Value.slice x8A (N + 1) c8A).ownBlock = some i) → ms i) := fun i hi h => h.elim (fun h => h) (fun h => (hv8A i h).elim (fun h => (hvw i h).1) (fun h => absurd hi (Nat.not_lt.mpr h)))
            have BF9 : BodyF w9A (fun g => ms g ∨ (Value.slice x8A (N + 1) c8A).ownBlock = some g) (.slice xM (putD (markD d)).length cM) (putD (markD d)) := BF7.chg C9A (fun i _ e => e.elim (fun e => by rw [e]; exact HA.out.mine) (fun e => (hvw i e).1)) HMS9.out
            have hn9 : (l ++ [(⟨addI now dl, .slice xM (putD (markD d)).length cM, (putD (markD d))⟩ : Itm)]).length = N + 1 := by rw [List.length_append, HN.out]; rfl
            have HN9 := Lib.hid hn9
            have HC9 := Lib.hid C9
            have HO9 := Lib.hid o9
            have HUP9 := Lib.hid up9
            have sC9 := C9.size
            have rL9 := C9A.row rL7 (fun e => e.elim (fun e => HLM.out (e ▸ HA.out.mine)) (fun e => HLM.out (hvw _ e).1))
            have HLM9 : Hid (¬ (ms wM.heap.size ∨ (Value.slice x8A (N + 1) c8A).ownBlock = some wM.heap.size)) := fun h => h.elim HLM.out (fun h => (hv8A _ h).elim (fun h => HLM.out (hvw _ h).1) (fun h => by have := hLA; omega))
            clear hn9 C9 o9 up9 BF7 RA7 C7 K7 hvw C9A rL7
            go_wp2_with fail
            have rPB : RowIs w9A P 60 #[.slice xf nf cf, .slice x8A (N + 1) c8A, .int .i64 ((n : Int) + 1)] := by have := RA9A.row; rwa [HNF.out] at this
            have HRAB := Lib.hid RA9A
            have HBFB := Lib.hid BF9
            have HOWB := Lib.hid RA9A.own
            rw [HN9.out] at HOWB
            refine TillLast.begin (S := fun W => RowIs W P 60 #[.slice xf nf cf, .slice x8A (N + 1) c8A, .int .i64 ((n : Int) + 1)] ∧ RowIs W wM.heap.size 127 #[.int .u64 (addI now dl), .slice xM (putD (markD d)).length cM]) 10 (by kernel_rfl) ?_
            obtain ⟨XB, hXB⟩ : ∃ X, X = w9A.drew := ⟨_, rfl⟩
            have KXB : Chg (fun _ => False) w9A XB := by rw [hXB]; exact Chg.drew' (Chg.refl _ _)
            have rPXB := KXB.row rPB (fun h => h)
            have rLXB := KXB.row rL9 (fun h => h)
            rw [← hXB]
            clear hXB
            refine TillLast.take (i := 0) (oi := _) (v := (.pointer (some ⟨P, 0, none⟩))) rfl (by kernel_rfl) (by kernel_rfl) (by kernel_rfl) (by kernel_rfl) (fun _ _ _ h => h) (Or.inl ⟨by rfl, fun w hS => by go_simp⟩) ⟨rPXB, rLXB⟩ ?_
            simp [Act.put]
            refine TillLast.take (i := 1) (oi := _) (v := (.pointer (some ⟨P, 0, none⟩))) rfl (by kernel_rfl) (by kernel_rfl) (by kernel_rfl) (by kernel_rfl) (fun _ _ _ h => h) (Or.inl ⟨by rfl, fun w hS => by go_simp⟩) ⟨rPXB, rLXB⟩ ?_
            simp [Act.put]
            refine TillLast.take (i := 2) (oi := _) (v := (.pointer (some ⟨P, 0, none⟩))) rfl (by kernel_rfl) (by kernel_rfl) (by kernel_rfl) (by kernel_rfl) (fun _ _ _ h => h) (Or.inl ⟨by rfl, fun w hS => by go_simp⟩) ⟨rPXB, rLXB⟩ ?_
            simp [Act.put]
            refine TillLast.take (i := 3) (oi := _) (v := (.pointer (some ⟨P, 1, none⟩))) rfl (by kernel_rfl) (by kernel_rfl) (by kernel_rfl) (by kernel_rfl) (fun _ _ _ h => h) (Or.inl ⟨by rfl, fun w hS => by go_simp⟩) ⟨rPXB, rLXB⟩ ?_
            simp [Act.put]
            refine TillLast.take (i := 4) (oi := _) (v := (.slice x8A (N + 1) c8A)) rfl (by kernel_rfl) (by kernel_rfl) (by kernel_rfl) (by kernel_rfl) (fun _ _ _ h => h) (Or.inl ⟨by rfl, fun w hS => by have hc1 := RowIs.cell hS.1 1; have hlt := RowIs.lt hS.1; simp at hc1; clear hS; go_simp⟩) ⟨rPXB, rLXB⟩ ?_
            simp [Act.put]
            refine TillLast.take (i := 5) (oi := _) (v := (.agg #[.int .u64 (addI now dl), .slice xM (putD (markD d)).length cM])) rfl (by kernel_rfl) (by kernel_rfl) (by kernel_rfl) (by kernel_rfl) (fun _ _ _ h => h) (Or.inl ⟨by rfl, fun w hS => by have hc0 := RowIs.cell hS.2 0; have hc1 := RowIs.cell hS.2 1; have hlt := RowIs.lt hS.2; simp at hc0 hc1; clear hS; go_simp⟩) ⟨rPXB, rLXB⟩ ?_
            simp [Act.put]
            refine TillLast.step (i := 6) (by kernel_rfl) rfl (fun K hK => ?_)
            go_simp
            obtain ⟨wBB, hwBB⟩ : ∃ wB, wB = XB.alloc (.cells #[.int .u64 (addI now dl), .slice xM (putD (markD d)).length cM] 127 (0, 0)) := ⟨_, rfl⟩
            try rw [← hwBB]
            have KBB : Chg (fun _ => False) XB wBB := by rw [hwBB]; exact Chg.alloc _ _
            have rPBB := KBB.row rPXB (fun h => h)
            have rLBB := KBB.row rLXB (fun h => h)
            have rNBB : RowIs wBB XB.heap.size 127 #[.int .u64 (addI now dl), .slice xM (putD (markD d)).length cM] := by rw [hwBB]; exact RowIs.mk (heap_alloc_new _ _)
            refine hK.out _ _ (fun _ => ⟨rPBB, rLBB⟩) ?_
            clear hK K hwBB
            have KBTB := KXB.trans KBB (fun _ h => h.elim)
            refine TillLast.step (i := 7) (by kernel_rfl) rfl (fun K hK => ?_)
            rw [if_pos (by rfl)]
            refine wp_append_any (.tmp 73) (.tmp 75) 58 rfl 0 127 i2 (.agg #[.int .u64 0, .slice none 0 0]) 2 32 Try.underlying58 hi2 hzz2 hs2 hbb2 rfl (by decide) (.slice x8A (N + 1) c8A) (N + 1) (flatI (l ++ [(⟨addI now dl, .slice xM (putD (markD d)).length cM, (putD (markD d))⟩ : Itm)])) rfl (KBTB.own HOWB.out (fun _ _ h => h)) (some ⟨XB.heap.size, 0, none⟩) 1 1 [.int .u64 (addI now dl), .slice xM (putD (markD d)).length cM] rfl rfl (.inr ⟨_, rfl, one_news rNBB⟩) (one2 _ _ _ _) (by simp [maxLen]; omega) (by omega) (Nat.zero_le _) ?_
            intro v8 w8B own8B hgrow8B hat8B
            obtain ⟨x8B, c8B, rfl⟩ := own_slice own8B
            have K8B : Chg (fun i => (Value.slice x8A (N + 1) c8A).ownBlock = some i) wBB w8B := Chg.ofGrown hgrow8B
            have rP8B := K8B.row rPBB (fun e => (HRAB.out.vms _ e).2 rfl)
            have rL8B := K8B.row rLBB (fun e => HLM9.out (HRAB.out.vms _ e).1)
            simp [Act.put]
            refine hK.out _ _ (fun _ => ⟨rP8B, rL8B⟩) ?_
            clear hK K
            refine TillLast.take (i := 8) (oi := _) (v := (.pointer (some ⟨P, 0, none⟩))) rfl (by kernel_rfl) (by kernel_rfl) (by kernel_rfl) (by kernel_rfl) (fun _ _ _ h => h) (Or.inl ⟨by rfl, fun w hS => by go_simp⟩) ⟨rP8B, rL8B⟩ ?_
            simp [Act.put]
            refine TillLast.take (i := 9) (oi := _) (v := (.pointer (some ⟨P, 1, none⟩))) rfl (by kernel_rfl) (by kernel_rfl) (by kernel_rfl) (by kernel_rfl) (fun _ _ _ h => h) (Or.inl ⟨by rfl, fun w hS => by go_simp⟩) ⟨rP8B, rL8B⟩ ?_
            simp [Act.put]
            have zP8B := RowIs.fz rP8B 1
            have cP8B := RowIs.cell rP8B 1
            have lP8B := RowIs.lt rP8B
            simp at cP8B
            refine TillLast.step (i := 10) (by kernel_rfl) rfl (fun K hK => ?_)
            go_simp
            refine hK.out _ _ (fun h => absurd rfl h) ?_
            clear hK K
            refine TillLast.done (by kernel_rfl) ?_ _
            obtain ⟨w9B, hw9B⟩ : ∃ w9, w9 = w8B.setCell ⟨P, 1, none⟩ (.slice x8B ((N + 1) + 1) c8B) := ⟨_, rfl⟩
            try rw [← hw9B]
            have K89B : Chg (fun i => i = P) w8B w9B := by rw [hw9B]; exact Chg.setCell _ _ _ _
            have r9B : RowIs w9B P 60 #[.slice xf nf cf, .slice x8B ((N + 1) + 1) c8B, .int .i64 ((n : Int) + 1)] := by rw [hw9B]; exact rP8B.set1 _
            have hv8B : ∀ g, (Value.slice x8B ((N + 1) + 1) c8B).ownBlock = some g → (.slice x8A (N + 1) c8A : Value).ownBlock = some g ∨ w9A.heap.size ≤ g := fun g e => by
              have sB := KBTB.size
              rcases hat8B with h | h
              · exact .inl (h ▸ e)
              · rw [h] at e
                injection e with e
                exact .inr (by omega)
            have own9B := K89B.own own8B (fun g e h => (hv8B g e).elim (fun h' => (HRAB.out.vms g h').2 h) (fun h' => by have := HRAB.out.row.lt; omega))
            have C9B : Chg (fun i => i = P ∨ (.slice x8A (N + 1) c8A : Value).ownBlock = some i) w9A w9B := ((KBTB.mono (fun _ _ h => h.elim)).trans (K8B.mono (fun _ _ h => .inr h)) (fun i h => .inl h)).trans K89B (fun i h => .inl (.inl h))
            have RA9B := rlay_done HRAB.out HBFB.out haW.out rfl C9B (by rw [HNF.out]; exact r9B) (by rw [HN9.out]; exact own9B) hv8B
            clear hw9B K89B r9B own9B own8B hgrow8B hat8B K8B rP8B rL8B rPBB rLBB rNBB KBB KBTB rPXB rLXB KXB zP8B cP8B rPB lP8B HBFB HOWB
            
            have o10 : ∀ g, (Value.slice x8B (N + 1 + 1) c8B).ownBlock = some g → (Value.slice xv N cv).ownBlock = some g ∨ w.heap.size ≤ g := fun g h => (hv8B g h).elim (HO9.out g) (fun h => .inr (by omega))
            have C10 : Chg (fun i => i = P ∨ (Value.slice xv N cv).ownBlock = some i) w w9B := HC9.out.trans C9B (fun i h => h.elim (fun h => .inl (.inl h)) (fun h => (HO9.out i h).elim (fun h => .inl (.inr h)) .inr))
            go_wp2_with fail
            first | go_end0 | refine bodyPost_ret (results_none rfl _ _ _) rfl ?_
            refine ⟨rfl, .slice x8B (N + 1 + 1) c8B, _, _, C10, o10, fun g h => .inl (.inl h), fun g h => h.elim (HUP9.out g) (fun h => (o10 g h).elim (fun h => .inl (HA.out.vms g h).1) .inr), RA9B, ?_⟩
            rw [List.map_append, List.map_append, rput_tw HFE.out rfl rfl hmk.out]
            rfl
          · clear hG0
            ((with_reducible refine (rMarkNo _ bs HBY.out hlen _ HB6.out E d HG0.out hE).mono ?_); rintro e' wM ⟨rfl, bM⟩)
            have KM : Chg (fun _ => False) w6 wM := Chg.ofBelow bM
            have RAM := RA6.same KM
            have rFM := KM.row rF6 (fun h => h)
            have CM := C6.trans KM (fun i h => h.elim)
            have m1 := rFM.cell 1
            have m3 := rFM.cell 3
            simp at m1 m3
            have lFM := rFM.lt
            have BFM : BodyF wM ms (.slice x6 bs.length c6) bs := BF6.chg KM (fun _ _ h => h.elim) (fun _ _ h => h)
            go_wp2_with fail
            have hG0 := HG0.out
            ((refine (rAdd now dl HNOW.out HDL.out _).mono ?_); rintro e' w' ⟨rfl, rfl⟩)
            go_wp2_with fail
            obtain ⟨w7, hw7⟩ : ∃ w7, w7 = wM.alloc (.cells #[.int .u64 (addI now dl), .slice x6 bs.length c6] 127 (0, 0)) := ⟨_, rfl⟩
            try rw [← hw7]
            have K7 : Chg (fun _ => False) wM w7 := by rw [hw7]; exact Chg.alloc _ _
            have rL7 : RowIs w7 wM.heap.size 127 #[.int .u64 (addI now dl), .slice x6 bs.length c6] := by rw [hw7]; exact RowIs.mk (heap_alloc_new wM _)
            clear hw7
            have RA7 := RefAt.same RAM K7
            have BF7 : BodyF w7 ms (.slice x6 bs.length c6) bs := BodyF.chg BFM K7 (fun _ _ h => h.elim) (fun _ _ h => h)
            have rF7 := K7.row rFM (fun h => h)
            have C7 := CM.trans K7 (fun i h => h.elim)
            have haW : Hid (W64 (addI now dl)) := Lib.hid (addI_W _ _ HNOW.out HDL.out)
            have HLM : Hid (¬ ms wM.heap.size) := fun h => Nat.lt_irrefl _ (RAM.msl _ h)
            have hmk : Hid ((if true = true then markF bs else bs) = bs) := by show _ = _; unfold markF; rw [hG0]; simp [hE]
            have rPA : RowIs w7 P 60 #[.slice xf nf cf, .slice xv N cv, .int .i64 ((n : Int) + 1)] := by have := RA7.row; rwa [HNF.out] at this
            have HRAA := Lib.hid RA7
            have HBFA := Lib.hid BF7
            have HOWA := Lib.hid RA7.own
            rw [HN.out] at HOWA
            refine TillLast.begin (S := fun W => RowIs W P 60 #[.slice xf nf cf, .slice xv N cv, .int .i64 ((n : Int) + 1)] ∧ RowIs W wM.heap.size 127 #[.int .u64 (addI now dl), .slice x6 bs.length c6]) 10 (by kernel_rfl) ?_
            obtain ⟨XA, hXA⟩ : ∃ X, X = w7.drew := ⟨_, rfl⟩
            have KXA : Chg (fun _ => False) w7 XA := by rw [hXA]; exact Chg.drew' (Chg.refl _ _)
            have rPXA := KXA.row rPA (fun h => h)
            have rLXA := KXA.row rL7 (fun h => h)
            rw [← hXA]
            clear hXA
            refine TillLast.take (i := 0) (oi := _) (v := (.pointer (some ⟨P, 0, none⟩))) rfl (by kernel_rfl) (by kernel_rfl) (by kernel_rfl) (by kernel_rfl) (fun _ _ _ h => h) (Or.inl ⟨by rfl, fun w hS => by go_simp⟩) ⟨rPXA, rLXA⟩ ?_
            simp [Act.put]
            refine TillLast.take (i := 1) (oi := _) (v := (.pointer (some ⟨P, 0, none⟩))) rfl (by kernel_rfl) (by kernel_rfl) (by kernel_rfl) (by kernel_rfl) (fun _ _ _ h => h) (Or.inl ⟨by rfl, fun w hS => by go_simp⟩) ⟨rPXA, rLXA⟩ ?_
            simp [Act.put]
            refine TillLast.take (i := 2) (oi := _) (v := (.pointer (some ⟨P, 0, none⟩))) rfl (by kernel_rfl) (by kernel_rfl) (by kernel_rfl) (by kernel_rfl) (fun _ _ _ h => h) (Or.inl ⟨by rfl, fun w hS => by go_simp⟩) ⟨rPXA, rLXA⟩ ?_
            simp [Act.put]
            refine TillLast.take (i := 3) (oi := _) (v := (.pointer (some ⟨P, 1, none⟩))) rfl (by kernel_rfl) (by kernel_rfl) (by kernel_rfl) (by kernel_rfl) (fun _ _ _ h => h) (Or.inl ⟨by rfl, fun w hS => by go_simp⟩) ⟨rPXA, rLXA⟩ ?_
            simp [Act.put]
            refine TillLast.take (i := 4) (oi := _) (v := (.slice xv N cv)) rfl (by kernel_rfl) (by kernel_rfl) (by kernel_rfl) (by kernel_rfl) (fun _ _ _ h => h) (Or.inl ⟨by rfl, fun w hS => by have hc1 := RowIs.cell hS.1 1; have hlt := RowIs.lt hS.1; simp at hc1; clear hS; go_simp⟩) ⟨rPXA, rLXA⟩ ?_
            simp [Act.put]
            refine TillLast.take (i := 5) (oi := _) (v := (.agg #[.int .u64 (addI now dl), .slice x6 bs.length c6])) rfl (by kernel_rfl) (by kernel_rfl) (by kernel_rfl) (by kernel_rfl) (fun _ _ _ h => h) (Or.inl ⟨by rfl, fun w hS => by have hc0 := RowIs.cell hS.2 0; have hc1 := RowIs.cell hS.2 1; have hlt := RowIs.lt hS.2; simp at hc0 hc1; clear hS; go_simp⟩) ⟨rPXA, rLXA⟩ ?_
            simp [Act.put]
            refine TillLast.step (i := 6) (by kernel_rfl) rfl (fun K hK => ?_)
            go_simp
            obtain ⟨wBA, hwBA⟩ : ∃ wB, wB = XA.alloc (.cells #[.int .u64 (addI now dl), .slice x6 bs.length c6] 127 (0, 0)) := ⟨_, rfl⟩
            try rw [← hwBA]
            have KBA : Chg (fun _ => False) XA wBA := by rw [hwBA]; exact Chg.alloc _ _
            have rPBA := KBA.row rPXA (fun h => h)
            have rLBA := KBA.row rLXA (fun h => h)
            have rNBA : RowIs wBA XA.heap.size 127 #[.int .u64 (addI now dl), .slice x6 bs.length c6] := by rw [hwBA]; exact RowIs.mk (heap_alloc_new _ _)
            refine hK.out _ _ (fun _ => ⟨rPBA, rLBA⟩) ?_
            clear hK K hwBA
            have KBTA := KXA.trans KBA (fun _ h => h.elim)
            refine TillLast.step (i := 7) (by kernel_rfl) rfl (fun K hK => ?_)
            rw [if_pos (by rfl)]
            refine wp_append_any (.tmp 61) (.tmp 63) 58 rfl 0 127 i2 (.agg #[.int .u64 0, .slice none 0 0]) 2 32 Try.underlying58 hi2 hzz2 hs2 hbb2 rfl (by decide) (.slice xv N cv) N (flatI l) rfl (KBTA.own HOWA.out (fun _ _ h => h)) (some ⟨XA.heap.size, 0, none⟩) 1 1 [.int .u64 (addI now dl), .slice x6 bs.length c6] rfl rfl (.inr ⟨_, rfl, one_news rNBA⟩) (one2 _ _ _ _) (by simp [maxLen]; omega) (by omega) (Nat.zero_le _) ?_
            intro v8 w8A own8A hgrow8A hat8A
            obtain ⟨x8A, c8A, rfl⟩ := own_slice own8A
            have K8A : Chg (fun i => (Value.slice xv N cv).ownBlock = some i) wBA w8A := Chg.ofGrown hgrow8A
            have rP8A := K8A.row rPBA (fun e => (HRAA.out.vms _ e).2 rfl)
            have rL8A := K8A.row rLBA (fun e => HLM.out (HRAA.out.vms _ e).1)
            simp [Act.put]
            refine hK.out _ _ (fun _ => ⟨rP8A, rL8A⟩) ?_
            clear hK K
            refine TillLast.take (i := 8) (oi := _) (v := (.pointer (some ⟨P, 0, none⟩))) rfl (by kernel_rfl) (by kernel_rfl) (by kernel_rfl) (by kernel_rfl) (fun _ _ _ h => h) (Or.inl ⟨by rfl, fun w hS => by go_simp⟩) ⟨rP8A, rL8A⟩ ?_
            simp [Act.put]
            refine TillLast.take (i := 9) (oi := _) (v := (.pointer (some ⟨P, 1, none⟩))) rfl (by kernel_rfl) (by kernel_rfl) (by kernel_rfl) (by kernel_rfl) (fun _ _ _ h => h) (Or.inl ⟨by rfl, fun w hS => by go_simp⟩) ⟨rP8A, rL8A⟩ ?_
            simp [Act.put]
            have zP8A := RowIs.fz rP8A 1
            have cP8A := RowIs.cell rP8A 1
            have lP8A := RowIs.lt rP8A
            simp at cP8A
            refine TillLast.step (i := 10) (by kernel_rfl) rfl (fun K hK => ?_)
            go_simp
            refine hK.out _ _ (fun h => absurd rfl h) ?_
            clear hK K
            refine TillLast.done (by kernel_rfl) ?_ _
            obtain ⟨w9A, hw9A⟩ : ∃ w9, w9 = w8A.setCell ⟨P, 1, none⟩ (.slice x8A (N + 1) c8A) := ⟨_, rfl⟩
            try rw [← hw9A]
            have K89A : Chg (fun i => i = P) w8A w9A := by rw [hw9A]; exact Chg.setCell _ _ _ _
            have r9A : RowIs w9A P 60 #[.slice xf nf cf, .slice x8A (N + 1) c8A, .int .i64 ((n : Int) + 1)] := by rw [hw9A]; exact rP8A.set1 _
            have hv8A : ∀ g, (Value.slice x8A (N + 1) c8A).ownBlock = some g → (.slice xv N cv : Value).ownBlock = some g ∨ w7.heap.size ≤ g := fun g e => by
              have sB := KBTA.size
              rcases hat8A with h | h
              · exact .inl (h ▸ e)
              · rw [h] at e
                injection e with e
                exact .inr (by omega)
            have own9A := K89A.own own8A (fun g e h => (hv8A g e).elim (fun h' => (HRAA.out.vms g h').2 h) (fun h' => by have := HRAA.out.row.lt; omega))
            have C9A : Chg (fun i => i = P ∨ (.slice xv N cv : Value).ownBlock = some i) w7 w9A := ((KBTA.mono (fun _ _ h => h.elim)).trans (K8A.mono (fun _ _ h => .inr h)) (fun i h => .inl h)).trans K89A (fun i h => .inl (.inl h))
            have RA9A := rlay_done HRAA.out HBFA.out haW.out rfl C9A (by rw [HNF.out]; exact r9A) (by rw [HN.out]; exact own9A) hv8A
            clear hw9A K89A r9A own9A own8A hgrow8A hat8A K8A rP8A rL8A rPBA rLBA rNBA KBA KBTA rPXA rLXA KXA zP8A cP8A rPA lP8A HBFA HOWA
            have sX7 := C7.size
            have hvw : ∀ g, (Value.slice xv N cv).ownBlock = some g → ms g ∧ g ≠ P := HA.out.vms
            have rF9 := C9A.row rF7 (fun e => e.elim (fun e => hneF e) (fun e => Nat.lt_irrefl _ (HMS.out _ (hvw _ e).1)))
            have t1 := rF9.cell 1
            have t3 := rF9.cell 3
            simp at t1 t3
            have lF9 := rF9.lt
            have C9 : Chg (fun i => i = P ∨ (Value.slice xv N cv).ownBlock = some i) w w9A := (C7.mono (fun i _ e => .inl e)).trans C9A (fun i h => .inl h)
            have o9 : ∀ g, (Value.slice x8A (N + 1) c8A).ownBlock = some g → (Value.slice xv N cv).ownBlock = some g ∨ w.heap.size ≤ g := fun g h => (hv8A g h).elim .inl (fun h => .inr (Nat.le_trans sX7 h))
            have up9 : ∀ g, (ms g ∨ (Value.slice x8A (N + 1) c8A).ownBlock = some g) → ms g ∨ w.heap.size ≤ g := fun g h => h.elim .inl (fun h => (o9 g h).elim (fun h => .inl (hvw g h).1) .inr)
            have hLA := rL7.lt
            clear rF7 rF9
            have HMS9 : Hid (∀ i, i < w7.heap.size → (ms i ∨ (Value.slice x8A (N + 1) c8A).ownBlock = some i) → ms i) := fun i hi h => h.elim (fun h => h) (fun h => (hv8A i h).elim (fun h => (hvw i h).1) (fun h => absurd hi (Nat.not_lt.mpr h)))
            have BF9 : BodyF w9A (fun g => ms g ∨ (Value.slice x8A (N + 1) c8A).ownBlock = some g) (.slice x6 bs.length c6) bs := BF7.chg C9A (fun i _ e => e.elim (fun e => by rw [e]; exact HA.out.mine) (fun e => (hvw i e).1)) HMS9.out
            have hn9 : (l ++ [(⟨addI now dl, .slice x6 bs.length c6, bs⟩ : Itm)]).length = N + 1 := by rw [List.length_append, HN.out]; rfl
            have HN9 := Lib.hid hn9
            have HC9 := Lib.hid C9
            have HO9 := Lib.hid o9
            have HUP9 := Lib.hid up9
            have sC9 := C9.size
            have rL9 := C9A.row rL7 (fun e => e.elim (fun e => HLM.out (e ▸ HA.out.mine)) (fun e => HLM.out (hvw _ e).1))
            have HLM9 : Hid (¬ (ms wM.heap.size ∨ (Value.slice x8A (N + 1) c8A).ownBlock = some wM.heap.size)) := fun h => h.elim HLM.out (fun h => (hv8A _ h).elim (fun h => HLM.out (hvw _ h).1) (fun h => by have := hLA; omega))
            clear hn9 C9 o9 up9 BF7 RA7 C7 K7 hvw C9A rL7
            go_wp2_with fail
            have rPB : RowIs w9A P 60 #[.slice xf nf cf, .slice x8A (N + 1) c8A, .int .i64 ((n : Int) + 1)] := by have := RA9A.row; rwa [HNF.out] at this
            have HRAB := Lib.hid RA9A
            have HBFB := Lib.hid BF9
            have HOWB := Lib.hid RA9A.own
            rw [HN9.out] at HOWB
            refine TillLast.begin (S := fun W => RowIs W P 60 #[.slice xf nf cf, .slice x8A (N + 1) c8A, .int .i64 ((n : Int) + 1)] ∧ RowIs W wM.heap.size 127 #[.int .u64 (addI now dl), .slice x6 bs.length c6]) 10 (by kernel_rfl) ?_
            obtain ⟨XB, hXB⟩ : ∃ X, X = w9A.drew := ⟨_, rfl⟩
            have KXB : Chg (fun _ => False) w9A XB := by rw [hXB]; exact Chg.drew' (Chg.refl _ _)
            have rPXB := KXB.row rPB (fun h => h)
            have rLXB := KXB.row rL9 (fun h => h)
            rw [← hXB]
            clear hXB
            refine TillLast.take (i := 0) (oi := _) (v := (.pointer (some ⟨P, 0, none⟩))) rfl (by kernel_rfl) (by kernel_rfl) (by kernel_rfl) (by kernel_rfl) (fun _ _ _ h => h) (Or.inl ⟨by rfl, fun w hS => by go_simp⟩) ⟨rPXB, rLXB⟩ ?_
            simp [Act.put]
            refine TillLast.take (i := 1) (oi := _) (v := (.pointer (some ⟨P, 0, none⟩))) rfl (by kernel_rfl) (by kernel_rfl) (by kernel_rfl) (by kernel_rfl) (fun _ _ _ h => h) (Or.inl ⟨by rfl, fun w hS => by go_simp⟩) ⟨rPXB, rLXB⟩ ?_
            simp [Act.put]
            refine TillLast.take (i := 2) (oi := _) (v := (.pointer (some ⟨P, 0, none⟩))) rfl (by kernel_rfl) (by kernel_rfl) (by kernel_rfl) (by kernel_rfl) (fun _ _ _ h => h) (Or.inl ⟨by rfl, fun w hS => by go_simp⟩) ⟨rPXB, rLXB⟩ ?_
            simp [Act.put]
            refine TillLast.take (i := 3) (oi := _) (v := (.pointer (some ⟨P, 1, none⟩))) rfl (by kernel_rfl) (by kernel_rfl) (by kernel_rfl) (by kernel_rfl) (fun _ _ _ h => h) (Or.inl ⟨by rfl, fun w hS => by go_simp⟩) ⟨rPXB, rLXB⟩ ?_
            simp [Act.put]
            refine TillLast.take (i := 4) (oi := _) (v := (.slice x8A (N + 1) c8A)) rfl (by kernel_rfl) (by kernel_rfl) (by kernel_rfl) (by kernel_rfl) (fun _ _ _ h => h) (Or.inl ⟨by rfl, fun w hS => by have hc1 := RowIs.cell hS.1 1; have hlt := RowIs.lt hS.1; simp at hc1; clear hS; go_simp⟩) ⟨rPXB, rLXB⟩ ?_
            simp [Act.put]
            refine TillLast.take (i := 5) (oi := _) (v := (.agg #[.int .u64 (addI now dl), .slice x6 bs.length c6])) rfl (by kernel_rfl) (by kernel_rfl) (by kernel_rfl) (by kernel_rfl) (fun _ _ _ h => h) (Or.inl ⟨by rfl, fun w hS => by have hc0 := RowIs.cell hS.2 0; have hc1 := RowIs.cell hS.2 1; have hlt := RowIs.lt hS.2; simp at hc0 hc1; clear hS; go_simp⟩) ⟨rPXB, rLXB⟩ ?_
            simp [Act.put]
            refine TillLast.step (i := 6) (by kernel_rfl) rfl (fun K hK => ?_)
            go_simp
            obtain ⟨wBB, hwBB⟩ : ∃ wB, wB = XB.alloc (.cells #[.int .u64 (addI now dl), .slice x6 bs.length c6] 127 (0, 0)) := ⟨_, rfl⟩
            try rw [← hwBB]
            have KBB : Chg (fun _ => False) XB wBB := by rw [hwBB]; exact Chg.alloc _ _
            have rPBB := KBB.row rPXB (fun h => h)
            have rLBB := KBB.row rLXB (fun h => h)
            have rNBB : RowIs wBB XB.heap.size 127 #[.int .u64 (addI now dl), .slice x6 bs.length c6] := by rw [hwBB]; exact RowIs.mk (heap_alloc_new _ _)
            refine hK.out _ _ (fun _ => ⟨rPBB, rLBB⟩) ?_
            clear hK K hwBB
            have KBTB := KXB.trans KBB (fun _ h => h.elim)
            refine TillLast.step (i := 7) (by kernel_rfl) rfl (fun K hK => ?_)
            rw [if_pos (by rfl)]
            refine wp_append_any (.tmp 73) (.tmp 75) 58 rfl 0 127 i2 (.agg #[.int .u64 0, .slice none 0 0]) 2 32 Try.underlying58 hi2 hzz2 hs2 hbb2 rfl (by decide) (.slice x8A (N + 1) c8A) (N + 1) (flatI (l ++ [(⟨addI now dl, .slice x6 bs.length c6, bs⟩ : Itm)])) rfl (KBTB.own HOWB.out (fun _ _ h => h)) (some ⟨XB.heap.size, 0, none⟩) 1 1 [.int .u64 (addI now dl), .slice x6 bs.length c6] rfl rfl (.inr ⟨_, rfl, one_news rNBB⟩) (one2 _ _ _ _) (by simp [maxLen]; omega) (by omega) (Nat.zero_le _) ?_
            intro v8 w8B own8B hgrow8B hat8B
            obtain ⟨x8B, c8B, rfl⟩ := own_slice own8B
            have K8B : Chg (fun i => (Value.slice x8A (N + 1) c8A).ownBlock = some i) wBB w8B := Chg.ofGrown hgrow8B
            have rP8B := K8B.row rPBB (fun e => (HRAB.out.vms _ e).2 rfl)
            have rL8B := K8B.row rLBB (fun e => HLM9.out (HRAB.out.vms _ e).1)
            simp [Act.put]
            refine hK.out _ _ (fun _ => ⟨rP8B, rL8B⟩) ?_
            clear hK K
            refine TillLast.take (i := 8) (oi := _) (v := (.pointer (some ⟨P, 0, none⟩))) rfl (by kernel_rfl) (by kernel_rfl) (by kernel_rfl) (by kernel_rfl) (fun _ _ _ h => h) (Or.inl ⟨by rfl, fun w hS => by go_simp⟩) ⟨rP8B, rL8B⟩ ?_
            simp [Act.put]
            refine TillLast.take (i := 9) (oi := _) (v := (.pointer (some ⟨P, 1, none⟩))) rfl (by kernel_rfl) (by kernel_rfl) (by kernel_rfl) (by kernel_rfl) (fun _ _ _ h => h) (Or.inl ⟨by rfl, fun w hS => by go_simp⟩) ⟨rP8B, rL8B⟩ ?_
            simp [Act.put]
            have zP8B := RowIs.fz rP8B 1
            have cP8B := RowIs.cell rP8B 1
            have lP8B := RowIs.lt rP8B
            simp at cP8B
            refine TillLast.step (i := 10) (by kernel_rfl) rfl (fun K hK => ?_)
            go_simp
            refine hK.out _ _ (fun h => absurd rfl h) ?_
            clear hK K
            refine TillLast.done (by kernel_rfl) ?_ _
            obtain ⟨w9B, hw9B⟩ : ∃ w9, w9 = w8B.setCell ⟨P, 1, none⟩ (.slice x8B ((N + 1) + 1) c8B) := ⟨_, rfl⟩
            try rw [← hw9B]
            have K89B : Chg (fun i => i = P) w8B w9B := by rw [hw9B]; exact Chg.setCell _ _ _ _
            have r9B : RowIs w9B P 60 #[.slice xf nf cf, .slice x8B ((N + 1) + 1) c8B, .int .i64 ((n : Int) + 1)] := by rw [hw9B]; exact rP8B.set1 _
            have hv8B : ∀ g, (Value.slice x8B ((N + 1) + 1) c8B).ownBlock = some g → (.slice x8A (N + 1) c8A : Value).ownBlock = some g ∨ w9A.heap.size ≤ g := fun g e => by
              have sB := KBTB.size
              rcases hat8B with h | h
              · exact .inl (h ▸ e)
              · rw [h] at e
                injection e with e
                exact .inr (by omega)
            have own9B := K89B.own own8B (fun g e h => (hv8B g e).elim (fun h' => (HRAB.out.vms g h').2 h) (fun h' => by have := HRAB.out.row.lt; omega))
            have C9B : Chg (fun i => i = P ∨ (.slice x8A (N + 1) c8A : Value).ownBlock = some i) w9A w9B := ((KBTB.mono (fun _ _ h => h.elim)).trans (K8B.mono (fun _ _ h => .inr h)) (fun i h => .inl h)).trans K89B (fun i h => .inl (.inl h))
            have RA9B := rlay_done HRAB.out HBFB.out haW.out rfl C9B (by rw [HNF.out]; exact r9B) (by rw [HN9.out]; exact own9B) hv8B
            clear hw9B K89B r9B own9B own8B hgrow8B hat8B K8B rP8B rL8B rPBB rLBB rNBB KBB KBTB rPXB rLXB KXB zP8B cP8B rPB lP8B HBFB HOWB
            
            have o10 : ∀ g, (Value.slice x8B (N + 1 + 1) c8B).ownBlock = some g → (Value.slice xv N cv).ownBlock = some g ∨ w.heap.size ≤ g := fun g h => (hv8B g h).elim (HO9.out g) (fun h => .inr (by omega))
            have C10 : Chg (fun i => i = P ∨ (Value.slice xv N cv).ownBlock = some i) w w9B := HC9.out.trans C9B (fun i h => h.elim (fun h => .inl (.inl h)) (fun h => (HO9.out i h).elim (fun h => .inl (.inr h)) .inr))
            go_wp2_with fail
            first | go_end0 | refine bodyPost_ret (results_none rfl _ _ _) rfl ?_
            refine ⟨rfl, .slice x8B (N + 1 + 1) c8B, _, _, C10, o10, fun g h => .inl (.inl h), fun g h => h.elim (HUP9.out g) (fun h => (o10 g h).elim (fun h => .inl (HA.out.vms g h).1) .inr), RA9B, ?_⟩
            rw [List.map_append, List.map_append, rput_tw HFE.out rfl rfl hmk.out]
            rfl
    · skip
      have rPA : RowIs wA P 60 #[.slice xf nf cf, .slice xv N cv, .int .i64 n] := KA.row hR (fun h => h)
      have CA : Chg (fun i => i = P) w wA := KA.mono (fun i _ h => h.elim)
      have HMSA : Hid (∀ g, ms g → g < wA.heap.size) := fun g hg => Nat.lt_of_lt_of_le (HMS.out g hg) CA.size
      have fA0 := rFA.cell 0
      have zA := RowIs.fz rPA 2
      have pA2 := rPA.cell 2
      simp at fA0 pA2
      have lPA := rPA.lt
      have lFA := rFA.lt
      have hneF' : P ≠ w.heap.size := fun e => hneF e.symm
      skip
      go_wp2_with fail
      first | go_end0 | refine bodyPost_ret (results_none rfl _ _ _) rfl ?_
      have CB := CA.trans (Chg.setCell wA P 2 (.int .i64 ((n : Int) + 1))) (fun i e => .inl e)
      refine ⟨rfl, .slice xv N cv, l, ms, CB.mono (fun i _ e => .inl e), fun g h => .inl h, fun g h => h, fun g h => .inl h, HA.out.count CB (by rw [HNF.out]; exact rPA.set2c _), ?_⟩
      rw [rput_drop HFE.out rfl]
  · have hltI : ¬ (n : Int) < (nf : Int) := by omega
    have hd : decide ((n : Int) < (nf : Int)) = false := decide_eq_false hltI
    have HFE : Hid (fl.getD n zF = ⟨false, false, false, 0⟩) := by
      show _ = _
      rw [List.getD_eq_getElem?_getD, List.getElem?_eq_none (by rw [HNF.out]; omega)]
      rfl
    have HDL : Hid (W64 0) := Wlit (by omega)
    go_wp2_with fail
    go_quiet (fail)
    obtain ⟨wA, hwA⟩ : ∃ wA, wA = (w.alloc (.cells #[.bool false, .bool false, .bool false, .int .u64 0] 119 (0, 0))).drewN nq := ⟨_, rfl⟩
    have rFA : RowIs wA w.heap.size 119 #[.bool false, .bool false, .bool false, .int .u64 0] := by rw [hwA]; exact RowIs.mk (heap_alloc_new w _)
    have KA : Chg (fun _ => False) w wA := by rw [hwA]; exact ((Chg.refl _ _).alloc' _).drewN' _
    rw [← hwA]
    have rPA : RowIs wA P 60 #[.slice xf nf cf, .slice xv N cv, .int .i64 n] := KA.row hR (fun h => h)
    have CA : Chg (fun i => i = P) w wA := KA.mono (fun i _ h => h.elim)
    have HMSA : Hid (∀ g, ms g → g < wA.heap.size) := fun g hg => Nat.lt_of_lt_of_le (HMS.out g hg) CA.size
    have fA0 := rFA.cell 0
    have zA := RowIs.fz rPA 2
    have pA2 := rPA.cell 2
    simp at fA0 pA2
    have lPA := rPA.lt
    have lFA := rFA.lt
    have hneF' : P ≠ w.heap.size := fun e => hneF e.symm
    clear hwA p0 p2
    go_wp2_with (at_builtin; (refine wpList_append_any _ rfl (.const (.slice none 0 0)) (.tmp 40) 44 rfl wA.heap.size 5 i (.int .u8 0) 1 1 Try.underlying44 hi hzz hs hbb rfl (by decide) (.slice none 0 0) 0 [] rfl (World.ownsRow_nil _ _ _ _) bx bl bc (bs.map (.int .u8)) rfl (by rw [List.length_map, HBL.out, Nat.mul_one]) (bodySrc (HBW.out _ (CA.trans (Chg.setCell wA P 2 _) (fun _ h => .inl h))).at).2 (oneCell_bytes _) (by simp [maxLen]; omega) (by omega) (by simp) ?_; intro v6 w6 own6 hgrow6 hat6; simp only [Nat.zero_add, List.nil_append] at own6; rw [HBL.out] at own6; obtain ⟨x6, c6, rfl, BF6⟩ := bodyOfOwn (ms := ms) own6 HMSA.out; have rF6 := (Chg.ofGrown hgrow6).row (rFA.far1 hneF) (fun e => by cases e); have rP6 := (Chg.ofGrown hgrow6).row (rPA.set2c _) (fun e => by cases e); have g1 := rF6.cell 1; have g2 := rF6.cell 2; have g3 := rF6.cell 3; simp at g1 g2 g3; have lF6 := rF6.lt))
    have C6 : Chg (fun i => i = P) w w6 := (CA.trans (Chg.setCell wA P 2 _) (fun i e => .inl e)).trans (Chg.ofGrown hgrow6) (fun i e => by cases e)
    have RA6 : RefAt w6 ms P xf cf fl ((n : Int) + 1) (.slice xv N cv) l := HA.out.count C6 (by rw [HNF.out]; exact rP6)
    clear own6 hgrow6 hat6 rPA rFA fA0 zA pA2 rP6 CA
    ((refine (rAdd now 0 HNOW.out HDL.out _).mono ?_); rintro e' w' ⟨rfl, rfl⟩)
    go_wp2_with fail
    obtain ⟨w7, hw7⟩ : ∃ w7, w7 = w6.alloc (.cells #[.int .u64 (addI now 0), .slice x6 bs.length c6] 127 (0, 0)) := ⟨_, rfl⟩
    try rw [← hw7]
    have K7 : Chg (fun _ => False) w6 w7 := by rw [hw7]; exact Chg.alloc _ _
    have rL7 : RowIs w7 w6.heap.size 127 #[.int .u64 (addI now 0), .slice x6 bs.length c6] := by rw [hw7]; exact RowIs.mk (heap_alloc_new w6 _)
    clear hw7
    have RA7 := RefAt.same RA6 K7
    have BF7 : BodyF w7 ms (.slice x6 bs.length c6) bs := BodyF.chg BF6 K7 (fun _ _ h => h.elim) (fun _ _ h => h)
    have rF7 := K7.row rF6 (fun h => h)
    have C7 := C6.trans K7 (fun i h => h.elim)
    have haW : Hid (W64 (addI now 0)) := Lib.hid (addI_W _ _ HNOW.out HDL.out)
    have HLM : Hid (¬ ms w6.heap.size) := fun h => Nat.lt_irrefl _ (RA6.msl _ h)
    have hmk : Hid ((if false = true then markF bs else bs) = bs) := by show _ = _; rfl
    have rPA : RowIs w7 P 60 #[.slice xf nf cf, .slice xv N cv, .int .i64 ((n : Int) + 1)] := by have := RA7.row; rwa [HNF.out] at this
    have HRAA := Lib.hid RA7
    have HBFA := Lib.hid BF7
    have HOWA := Lib.hid RA7.own
    rw [HN.out] at HOWA
    refine TillLast.begin (S := fun W => RowIs W P 60 #[.slice xf nf cf, .slice xv N cv, .int .i64 ((n : Int) + 1)] ∧ RowIs W w6.heap.size 127 #[.int .u64 (addI now 0), .slice x6 bs.length c6]) 10 (by kernel_rfl) ?_
    obtain ⟨XA, hXA⟩ : ∃ X, X = w7.drew := ⟨_, rfl⟩
    have KXA : Chg (fun _ => False) w7 XA := by rw [hXA]; exact Chg.drew' (Chg.refl _ _)
    have rPXA := KXA.row rPA (fun h => h)
    have rLXA := KXA.row rL7 (fun h => h)
    rw [← hXA]
    clear hXA
    refine TillLast.take (i := 0) (oi := _) (v := (.pointer (some ⟨P, 0, none⟩))) rfl (by kernel_rfl) (by kernel_rfl) (by kernel_rfl) (by kernel_rfl) (fun _ _ _ h => h) (Or.inl ⟨by rfl, fun w hS => by go_simp⟩) ⟨rPXA, rLXA⟩ ?_
    simp [Act.put]
    refine TillLast.take (i := 1) (oi := _) (v := (.pointer (some ⟨P, 0, none⟩))) rfl (by kernel_rfl) (by kernel_rfl) (by kernel_rfl) (by kernel_rfl) (fun _ _ _ h => h) (Or.inl ⟨by rfl, fun w hS => by go_simp⟩) ⟨rPXA, rLXA⟩ ?_
    simp [Act.put]
    refine TillLast.take (i := 2) (oi := _) (v := (.pointer (some ⟨P, 0, none⟩))) rfl (by kernel_rfl) (by kernel_rfl) (by kernel_rfl) (by kernel_rfl) (fun _ _ _ h => h) (Or.inl ⟨by rfl, fun w hS => by go_simp⟩) ⟨rPXA, rLXA⟩ ?_
    simp [Act.put]
    refine TillLast.take (i := 3) (oi := _) (v := (.pointer (some ⟨P, 1, none⟩))) rfl (by kernel_rfl) (by kernel_rfl) (by kernel_rfl) (by kernel_rfl) (fun _ _ _ h => h) (Or.inl ⟨by rfl, fun w hS => by go_simp⟩) ⟨rPXA, rLXA⟩ ?_
    simp [Act.put]
    refine TillLast.take (i := 4) (oi := _) (v := (.slice xv N cv)) rfl (by kernel_rfl) (by kernel_rfl) (by kernel_rfl) (by kernel_rfl) (fun _ _ _ h => h) (Or.inl ⟨by rfl, fun w hS => by have hc1 := RowIs.cell hS.1 1; have hlt := RowIs.lt hS.1; simp at hc1; clear hS; go_simp⟩) ⟨rPXA, rLXA⟩ ?_
    simp [Act.put]
    refine TillLast.take (i := 5) (oi := _) (v := (.agg #[.int .u64 (addI now 0), .slice x6 bs.length c6])) rfl (by kernel_rfl) (by kernel_rfl) (by kernel_rfl) (by kernel_rfl) (fun _ _ _ h => h) (Or.inl ⟨by rfl, fun w hS => by have hc0 := RowIs.cell hS.2 0; have hc1 := RowIs.cell hS.2 1; have hlt := RowIs.lt hS.2; simp at hc0 hc1; clear hS; go_simp⟩) ⟨rPXA, rLXA⟩ ?_
    simp [Act.put]
    refine TillLast.step (i := 6) (by kernel_rfl) rfl (fun K hK => ?_)
    go_simp
    obtain ⟨wBA, hwBA⟩ : ∃ wB, wB = XA.alloc (.cells #[.int .u64 (addI now 0), .slice x6 bs.length c6] 127 (0, 0)) := ⟨_, rfl⟩
    try rw [← hwBA]
    have KBA : Chg (fun _ => False) XA wBA := by rw [hwBA]; exact Chg.alloc _ _
    have rPBA := KBA.row rPXA (fun h => h)
    have rLBA := KBA.row rLXA (fun h => h)
    have rNBA : RowIs wBA XA.heap.size 127 #[.int .u64 (addI now 0), .slice x6 bs.length c6] := by rw [hwBA]; exact RowIs.mk (heap_alloc_new _ _)
    refine hK.out _ _ (fun _ => ⟨rPBA, rLBA⟩) ?_
    clear hK K hwBA
    have KBTA := KXA.trans KBA (fun _ h => h.elim)
    refine TillLast.step (i := 7) (by kernel_rfl) rfl (fun K hK => ?_)
    rw [if_pos (by rfl)]
    refine wp_append_any (.tmp 61) (.tmp 63) 58 rfl 0 127 i2 (.agg #[.int .u64 0, .slice none 0 0]) 2 32 Try.underlying58 hi2 hzz2 hs2 hbb2 rfl (by decide) (.slice xv N cv) N (flatI l) rfl (KBTA.own HOWA.out (fun _ _ h => h)) (some ⟨XA.heap.size, 0, none⟩) 1 1 [.int .u64 (addI now 0), .slice x6 bs.length c6] rfl rfl (.inr ⟨_, rfl, one_news rNBA⟩) (one2 _ _ _ _) (by simp [maxLen]; omega) (by omega) (Nat.zero_le _) ?_
    intro v8 w8A own8A hgrow8A hat8A
    obtain ⟨x8A, c8A, rfl⟩ := own_slice own8A
    have K8A : Chg (fun i => (Value.slice xv N cv).ownBlock = some i) wBA w8A := Chg.ofGrown hgrow8A
    have rP8A := K8A.row rPBA (fun e => (HRAA.out.vms _ e).2 rfl)
    have rL8A := K8A.row rLBA (fun e => HLM.out (HRAA.out.vms _ e).1)
    simp [Act.put]
    refine hK.out _ _ (fun _ => ⟨rP8A, rL8A⟩) ?_
    clear hK K
    refine TillLast.take (i := 8) (oi := _) (v := (.pointer (some ⟨P, 0, none⟩))) rfl (by kernel_rfl) (by kernel_rfl) (by kernel_rfl) (by kernel_rfl) (fun _ _ _ h => h) (Or.inl ⟨by rfl, fun w hS => by go_simp⟩) ⟨rP8A, rL8A⟩ ?_
    simp [Act.put]
    refine TillLast.take (i := 9) (oi := _) (v := (.pointer (some ⟨P, 1, none⟩))) rfl (by kernel_rfl) (by kernel_rfl) (by kernel_rfl) (by kernel_rfl) (fun _ _ _ h => h) (Or.inl ⟨by rfl, fun w hS => by go_simp⟩) ⟨rP8A, rL8A⟩ ?_
    simp [Act.put]
    have zP8A := RowIs.fz rP8A 1
    have cP8A := RowIs.cell rP8A 1
    have lP8A := RowIs.lt rP8A
    simp at cP8A
    refine TillLast.step (i := 10) (by kernel_rfl) rfl (fun K hK => ?_)
    go_simp
    refine hK.out _ _ (fun h => absurd rfl h) ?_
    clear hK K
    refine TillLast.done (by kernel_rfl) ?_ _
    obtain ⟨w9A, hw9A⟩ : ∃ w9, w9 = w8A.setCell ⟨P, 1, none⟩ (.slice x8A (N + 1) c8A) := ⟨_, rfl⟩
    try rw [← hw9A]
    have K89A : Chg (fun i => i = P) w8A w9A := by rw [hw9A]; exact Chg.setCell _ _ _ _
    have r9A : RowIs w9A P 60 #[.slice xf nf cf, .slice x8A (N + 1) c8A, .int .i64 ((n : Int) + 1)] := by rw [hw9A]; exact rP8A.set1 _
    have hv8A : ∀ g, (Value.slice x8A (N + 1) c8A).ownBlock = some g → (.slice xv N cv : Value).ownBlock = some g ∨ w7.heap.size ≤ g := fun g e => by
      have sB := KBTA.size
      rcases hat8A with h | h
      · exact .inl (h ▸ e)
      · rw [h] at e
        injection e with e
        exact .inr (by omega)
    have own9A := K89A.own own8A (fun g e h => (hv8A g e).elim (fun h' => (HRAA.out.vms g h').2 h) (fun h' => by have := HRAA.out.row.lt; omega))
    have C9A : Chg (fun i => i = P ∨ (.slice xv N cv : Value).ownBlock = some i) w7 w9A := ((KBTA.mono (fun _ _ h => h.elim)).trans (K8A.mono (fun _ _ h => .inr h)) (fun i h => .inl h)).trans K89A (fun i h => .inl (.inl h))
    have RA9A := rlay_done HRAA.out HBFA.out haW.out rfl C9A (by rw [HNF.out]; exact r9A) (by rw [HN.out]; exact own9A) hv8A
    clear hw9A K89A r9A own9A own8A hgrow8A hat8A K8A rP8A rL8A rPBA rLBA rNBA KBA KBTA rPXA rLXA KXA zP8A cP8A rPA lP8A HBFA HOWA
    have sX7 := C7.size
    have hvw : ∀ g, (Value.slice xv N cv).ownBlock = some g → ms g ∧ g ≠ P := HA.out.vms
    have rF9 := C9A.row rF7 (fun e => e.elim (fun e => hneF e) (fun e => Nat.lt_irrefl _ (HMS.out _ (hvw _ e).1)))
    have t1 := rF9.cell 1
    have t3 := rF9.cell 3
    simp at t1 t3
    have lF9 := rF9.lt
    have C9 : Chg (fun i => i = P ∨ (Value.slice xv N cv).ownBlock = some i) w w9A := (C7.mono (fun i _ e => .inl e)).trans C9A (fun i h => .inl h)
    have o9 : ∀ g, (Value.slice x8A (N + 1) c8A).ownBlock = some g → (Value.slice xv N cv).ownBlock = some g ∨ w.heap.size ≤ g := fun g h => (hv8A g h).elim .inl (fun h => .inr (Nat.le_trans sX7 h))
    have up9 : ∀ g, (ms g ∨ (Value.slice x8A (N + 1) c8A).ownBlock = some g) → ms g ∨ w.heap.size ≤ g := fun g h => h.elim .inl (fun h => (o9 g h).elim (fun h => .inl (hvw g h).1) .inr)
    have hLA := rL7.lt
    clear rF7 rF9
    have FIN : ∃ v' l' ms', Chg (fun g => g = P ∨ (Value.slice xv N cv).ownBlock = some g) w w9A ∧ (∀ g, v'.ownBlock = some g → (Value.slice xv N cv).ownBlock = some g ∨ w.heap.size ≤ g) ∧ (∀ g, ms g → ms' g) ∧ (∀ g, ms' g → ms g ∨ w.heap.size ≤ g) ∧ RefAt w9A ms' P xf cf fl ((n : Int) + 1) v' l' ∧ l'.map pr = rputS fl n (l.map pr) now bs := ⟨Value.slice x8A (N + 1) c8A, l ++ [(⟨addI now 0, .slice x6 bs.length c6, bs⟩ : Itm)], (fun g => ms g ∨ (Value.slice x8A (N + 1) c8A).ownBlock = some g), C9, o9, (fun g h => .inl h), up9, RA9A, by rw [List.map_append, rput_no HFE.out rfl rfl hmk.out]; rfl⟩
    clear RA9A C9 o9 up9
    go_wp2_with fail
    first | go_end0 | refine bodyPost_ret (results_none rfl _ _ _) rfl ?_
    first | exact ⟨rfl, FIN⟩ | (obtain ⟨v', l', ms', f1, f2, f3, f4, f5, f6⟩ := FIN; exact ⟨rfl, f1, v', f2, l', ms', f3, f4, f5, f6⟩) | (obtain ⟨v', l', ms', f1, f2, f3, f4, f5, f6⟩ := FIN; exact ⟨rfl, f1, v', f2, l', f6, ms', f3, f4, f5⟩) | (obtain ⟨v', l', ms', f1, f2, f3, f4, f5, f6⟩ := FIN; exact ⟨rfl, f1, v', f2, l', ⟨ms', f3, f4, f5⟩, f6⟩)

end Go.Proofs.Ytikkmdbaekdolaa

