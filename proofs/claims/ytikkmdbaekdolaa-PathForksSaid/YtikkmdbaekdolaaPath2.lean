/- package path: lay puts an item behind all that do not come later. -/
import Derived.Test.YtikkmdbaekdolaaPath1
import Derived.Test.YtikkmdbaekdolaaHoldB
import Derived.Test.YtikkmdbaekdolaaReno
import Derived.Outline
import Derived.Deep.CutBlock
import Derived.Deep.DeepCutAuto
import Derived.StillTailTactics
import Derived.Lib.SlBuf
import Derived.Great.Walk
namespace Go.Proofs.Ytikkmdbaekdolaa
open Go.RowKit Go.Lib
set_option linter.unusedVariables false
set_option maxRecDepth 100000

theorem newsOf (W : World) (l : List Value) (t : TypeId) : ∀ (j : Nat) (x : Value), l[j]? = some x → (W.alloc (.cells l.toArray t)).cell? ((⟨W.heap.size, 0, none⟩ : Addr).add j) = some x := fun j x hx => by
  rw [addr_add, cell_of_row _ _ _ _ _ _ (heap_alloc_new W _), Nat.zero_add]
  simpa using hx
theorem RowIs.fz {w : World} {g : Nat} {t : TypeId} {cs : Array Value} (h : RowIs w g t cs) (j : Nat) : w.frozen? ⟨g, j, none⟩ = false := by
  have h := RowIs.un h
  simp [World.frozen?, h]
theorem ownGe {w : World} {B n s : Nat} {e : TypeId} {v : Value} {xs : List Value} (h : w.ownsRow B e s v n xs) (hn : 0 < n) : ∃ g c cur, v = .slice (some ⟨g, 0, none⟩) n c ∧ RowIs w g e cur ∧ n ≤ c ∧ c ≤ 9223372036854775807 ∧ cur.size = c * s ∧ cur.toList.take (n * s) = xs := by
  obtain ⟨_, ⟨_, h2⟩ | ⟨g, c, cur, rfl, hg, hheap, hc, hm, hcs, htake⟩⟩ := h
  · omega
  · unfold maxLen at hm
    exact ⟨g, c, cur, rfl, hheap, hc, hm, hcs, htake⟩

/-- how many of the first k stay ahead of what comes at a -/
def insK (l : List Itm) (a : Int) : Nat → Nat
  | 0 => 0
  | k + 1 => if a < (l.getD k zI).at_ then insK l a k else k + 1
theorem insK_le (l : List Itm) (a : Int) : ∀ k, insK l a k ≤ k
  | 0 => Nat.le_refl _
  | k + 1 => by
    unfold insK
    split
    · have := insK_le l a k
      omega
    · exact Nat.le_refl _
def insI (l : List Itm) (x : Itm) : List Itm := l.take (insK l x.at_ l.length) ++ x :: l.drop (insK l x.at_ l.length)

theorem flatI_take1 (l : List Itm) (k : Nat) (hk : k < l.length) : (flatI l).take ((k + 1) * 2) = flatI (l.take k) ++ [.int .u64 (l.getD k zI).at_, (l.getD k zI).v] := by
  rw [flatI_take l (k + 1) hk, List.take_add_one, flatI_app, List.getElem?_eq_getElem hk, List.getD_eq_getElem?_getD, List.getElem?_eq_getElem hk]
  rfl
theorem set_two {A B : List Value} {y z u t : Value} {k : Nat} (hA : A.length = k * 2) : ((A ++ y :: z :: B).set (k * 2) u).set (k * 2 + 1) t = A ++ u :: t :: B := by
  rw [List.set_append_right _ _ (by omega), hA, Nat.sub_self, List.set_cons_zero, List.set_append_right _ _ (by omega), hA, show k * 2 + 1 - k * 2 = 1 by omega]
  rfl
/-- the row behind the step: items ahead, the new one, items behind -/
theorem row_done {cur : Array Value} {l : List Itm} {k : Nat} {y z u t : Value} {R : List Value} (hk : k ≤ l.length) (h : cur.toList = flatI (l.take k) ++ y :: z :: (flatI (l.drop k) ++ R)) :
    ((cur.setIfInBounds (k * 2) u).setIfInBounds (k * 2 + 1) t).toList.take ((l.length + 1) * 2) = flatI (l.take k) ++ u :: t :: flatI (l.drop k) := by
  have hA : (flatI (l.take k)).length = k * 2 := by rw [flatI_len, List.length_take, Nat.min_eq_left hk]
  have hB : (flatI (l.drop k)).length = (l.length - k) * 2 := by rw [flatI_len, List.length_drop]
  rw [Array.toList_setIfInBounds, Array.toList_setIfInBounds, h, set_two hA]
  have e : flatI (l.take k) ++ u :: t :: (flatI (l.drop k) ++ R) = (flatI (l.take k) ++ u :: t :: flatI (l.drop k)) ++ R := by simp
  rw [e, List.take_append_of_le_length (by simp; omega), List.take_of_length_le (by simp; omega)]

section
variable {P : Program} (w : World)
theorem run_copy_zeroN (dT sT ty elem : TypeId) (size : Nat) (d a : Option Addr) (dLen dCap sLen sCap : Nat) (hu : P.underlying dT = some (.slice elem)) (hs : (P.info? elem).map (·.size) = some size) (hn : Nat.min sLen dLen = 0) :
    (Builtin.copy_ #[dT, sT] ty #[.slice d dLen dCap, .slice a sLen sCap]).run P w = .ok (goInt 0) w := by
  cases hq : P.info? elem with
  | none => simp [hq] at hs
  | some i =>
    have hl : ∀ x, (loadCells x 0).run P w = .ok #[] w := fun x => run_loadCells_list (P := P) w x [] (fun j v h => by simp at h)
    cases d <;> cases a <;> simp [Builtin.copy_, run_underlying hu, Builtin.lenOf, Builtin.firstCells, sizeOf, typeInfo, hq, hn, hl, storeCells]
end

theorem lay_done {w wT : World} {ms : Nat → Prop} {P g nf N c k cv cf bl bc : Nat} {xf xv bx : Option Addr} {fl : List FateP} {n a : Int} {l : List Itm} {bs : List Int} {curT : Array Value} (hA : PipeAt w ms P xf cf fl n (.slice xv l.length cv) l) (hB : BodyF w ms (.slice bx bl bc) bs) (hN : l.length = N) (hNF : fl.length = nf) (ha : W64 a) (hK : insK l a N = k)
    (hvP : ∀ j, (Value.slice xv N cv).ownBlock = some j → ms j ∧ j ≠ P) (hgv : ∀ j, (Value.slice (some ⟨g, 0, none⟩) (N + 1) c).ownBlock = some j → (Value.slice xv N cv).ownBlock = some j ∨ w.heap.size ≤ j)
    (CT : Chg (fun i => i = P ∨ (Value.slice xv N cv).ownBlock = some i) w wT) (rPT : RowIs wT P 117 #[.slice xf nf cf, .int .i64 n, .slice (some ⟨g, 0, none⟩) (N + 1) c]) (rT : RowIs wT g 125 curT)
    (hd : curT.toList.take ((N + 1) * 2) = flatI (l.take k) ++ .int .u64 a :: .slice bx bl bc :: flatI (l.drop k)) (hs : curT.size = c * 2) (hc1 : N + 1 ≤ c) (hc2 : c ≤ 9223372036854775807) (hgP : g ≠ P) :
    (Ending.returned (.tuple #[]) : Ending) = .returned (.tuple #[]) ∧ ∃ v', Chg (fun g => g = P ∨ (Value.slice xv l.length cv).ownBlock = some g) w wT ∧ (∀ g, v'.ownBlock = some g → (Value.slice xv l.length cv).ownBlock = some g ∨ w.heap.size ≤ g) ∧ PipeAt wT (fun g => ms g ∨ v'.ownBlock = some g) P xf cf fl n v' (insI l ⟨a, .slice bx bl bc, bs⟩) := by
  subst hN hNF
  have hI : insI l ⟨a, .slice bx bl bc, bs⟩ = l.take k ++ ⟨a, .slice bx bl bc, bs⟩ :: l.drop k := by unfold insI; rw [hK]
  have hk : k ≤ l.length := by rw [← hK]; exact insK_le l a _
  have hlI : (insI l ⟨a, .slice bx bl bc, bs⟩).length = l.length + 1 := by rw [hI]; simp; omega
  have h0 : ∀ i, i < w.heap.size → (i = P ∨ (Value.slice xv l.length cv).ownBlock = some i) → ms i := fun i _ h => by
    rcases h with rfl | h
    · exact hA.mine
    · exact (hvP i h).1
  have h1 : ∀ i, i < w.heap.size → (ms i ∨ (Value.slice (some ⟨g, 0, none⟩) (l.length + 1) c).ownBlock = some i) → ms i := fun i hi h => by
    rcases h with h | h
    · exact h
    · rcases hgv i h with h | h
      · exact (hvP i h).1
      · omega
  refine ⟨rfl, .slice (some ⟨g, 0, none⟩) (l.length + 1) c, CT, hgv, { row := rPT, mine := .inl hA.mine, msl := ?_, fates := ?_, fatesF := ?_, own := ?_, vms := ?_, its := ?_ }⟩
  · intro j hj
    rcases hj with hj | hj
    · exact Nat.lt_of_lt_of_le (hA.msl j hj) CT.size
    · cases hj
      exact rT.lt
  · exact hA.fates.chg CT (fun g' o' _ e hm => (hA.fatesF g' o' e).2 (h0 g' (hA.fatesF g' o' e).1 hm))
  · intro g' o' e
    exact ⟨Nat.lt_of_lt_of_le (hA.fatesF g' o' e).1 CT.size, fun h => (hA.fatesF g' o' e).2 (h1 g' (hA.fatesF g' o' e).1 h)⟩
  · rw [hlI, hI, flatI_app]
    refine ⟨?_, .inr ⟨g, c, curT, rfl, Nat.zero_le _, rT, hc1, by unfold maxLen; exact hc2, hs, ?_⟩⟩
    · rw [← flatI_app, flatI_len]; simp; omega
    · rw [hd]; simp [flatI]
  · intro j hj
    cases hj
    exact ⟨.inr rfl, hgP⟩
  · intro d hd'
    rw [hI] at hd'
    have hdd : d ∈ l ∨ d = ⟨a, .slice bx bl bc, bs⟩ := by
      simp only [List.mem_append, List.mem_cons] at hd'
      rcases hd' with h | h | h
      · exact .inl (List.mem_of_mem_take h)
      · exact .inr h
      · exact .inl (List.mem_of_mem_drop h)
    rcases hdd with h | rfl
    · exact ⟨(hA.its d h).1, (hA.its d h).2.1.chg CT h0 h1, (hA.its d h).2.2⟩
    · exact ⟨ha, hB.chg CT h0 h1, rfl⟩

set_option maxHeartbeats 16000000 in
theorem pLay (ms : Nat → Prop) (P : Nat) (xf : Option Addr) (cf : Nat) (fl : List FateP) (n : Int) (v : Value) (l : List Itm) (a : Int) (bx : Option Addr) (bl bc : Nat) (bs : List Int) (ha : W64 a) (hl : l.length ≤ 1000) (w : World)
    (hA : PipeAt w ms P xf cf fl n v l) (hB : BodyF w ms (.slice bx bl bc) bs) :
    Calls Try.prog 65 #[.pointer (some ⟨P, 0, none⟩), .agg #[.int .u64 a, .slice bx bl bc]] w fun e w' => e = .returned (.tuple #[]) ∧ ∃ v', Chg (fun g => g = P ∨ v.ownBlock = some g) w w' ∧ (∀ g, v'.ownBlock = some g → v.ownBlock = some g ∨ w.heap.size ≤ g) ∧ PipeAt w' (fun g => ms g ∨ v'.ownBlock = some g) P xf cf fl n v' (insI l ⟨a, .slice bx bl bc, bs⟩) := by
  obtain ⟨i, hi, hzz, hs, hbb⟩ := info_parts (P := Try.prog) (e := 125) (z := (.agg #[.int .u64 0, .slice none 0 0])) (size := 2) (bytes := 32) (by kernel_rfl)
  have HA := Lib.hid hA
  have HB := Lib.hid hB
  obtain ⟨xv, cv, rfl, hI⟩ := itOfOwn rfl hA.own
  have HI := Lib.hid hI
  have hR := hA.row
  have lP := hR.lt
  have hvP := hA.vms
  obtain ⟨nf, hnf⟩ : ∃ k, fl.length = k := ⟨_, rfl⟩
  have HNF := Lib.hid hnf
  obtain ⟨N, hN⟩ : ∃ k, l.length = k := ⟨_, rfl⟩
  have HN := Lib.hid hN
  rw [hnf, hN] at hR
  rw [hN] at hl
  clear hA hB hI hnf
  go_enter Try.func65, Try.ntmps65
  obtain ⟨X, hX⟩ : ∃ X, X = w.heap.size := ⟨_, rfl⟩
  obtain ⟨w1, hw1⟩ : ∃ w1, w1 = w.alloc (.cells #[.int .u64 a, .slice bx bl bc] 125 (0, 0)) := ⟨_, rfl⟩
  have rX : RowIs w1 X 125 #[.int .u64 a, .slice bx bl bc] := by rw [hw1, hX]; exact RowIs.mk (heap_alloc_new w _)
  have b1 : Below w.heap.size w w1 := by rw [hw1]; exact (Below.refl _ _).alloc (Nat.le_refl _) _
  have rP : RowIs w1 P 117 #[.slice xf nf cf, .int .i64 n, .slice xv N cv] := hR.bel b1
  have HI1 := Lib.hid (show IRow w1 xv l from by
    rcases HI.out with h | ⟨g, o, h1, h2, h3⟩
    · exact .inl h
    · exact .inr ⟨g, o, h1, Nat.lt_of_lt_of_le h2 b1.size, fun i hi => ⟨(b1.cell (p := ⟨g, o + i * 2, none⟩) h2).trans (h3 i hi).1, (b1.cell (p := ⟨g, o + i * 2 + 1, none⟩) h2).trans (h3 i hi).2⟩⟩)
  have HX := Lib.hid hX
  have HW1 := Lib.hid hw1
  have lP1 := rP.lt
  have lX1 := rX.lt
  have hPX : P ≠ X := by rw [hX]; omega
  have p2 := rP.cell 2
  simp at p2
  have hN0 : (0 : Int) ≤ (N : Int) := by omega
  clear hR hX hw1
  go_upto_block 0 with (rw [← HW1.out, ← HX.out])
  go_cut [4] from 5 (fun kv wx => ∃ k : Nat, kv = .int .i64 (k : Int) ∧ k ≤ N ∧ insK l a N = k ∧ Gr w1 wx)
  case first =>
    go_wp2_with fail
    go_loopw [4] (fun kv wr => ∃ k : Nat, kv = .int .i64 (k : Int) ∧ k ≤ N ∧ insK l a N = insK l a k ∧ Gr w1 wr) (fun kv _ => (RowKit.intOf kv).toNat)
    case atStart => exact ⟨N, rfl, Nat.le_refl _, rfl, Gr.refl _⟩
    case round =>
      clear p2
      obtain ⟨k, rfl, hk, hins, hG⟩ := hrel
      have HIN := Lib.hid hins
      have hG' := hG.below
      have q2 := (rP.bel hG').cell 2
      have qX := (rX.bel hG').cell 0
      simp at q2 qX
      have sG := hG.size
      clear hins
      rcases k with _ | k
      · have hd : decide ((0 : Int) < ((0 : Nat) : Int)) = false := by decide
        go_wp2_with fail
        go_quiet (fail)
        go_wp2_with fail
        go_meet
        exact ⟨0, rfl, by omega, HIN.out, by repeat (first | assumption | apply Gr.drewN)⟩
      have hki : (0 : Int) < (k : Int) + 1 := by omega
      have hki2 : (0 : Int) < ((k + 1 : Nat) : Int) := by omega
      have hk1 : IntKind.i64.wrap (((k + 1 : Nat) : Int) - 1) = (k : Int) := by rw [IntKind.wrap_i64]; omega
      have hk2 : IntKind.i64.wrap ((k : Int) + 1 - 1) = (k : Int) := by rw [IntKind.wrap_i64]; omega
      obtain ⟨g, o, rfl, hg, hc⟩ : ∃ g o, xv = some ⟨g, o, none⟩ ∧ ItAt w1 g o l := by
        rcases HI1.out with h | h
        · rw [h] at HN; have := HN.out; simp at this; omega
        · exact h
      obtain ⟨i0, _⟩ := hc k (by rw [HN.out]; omega)
      have i0 : wr.cell? ⟨g, o + k * 2, none⟩ = some (.int .u64 (l.getD k zI).at_) := (hG'.cell (p := ⟨g, o + k * 2, none⟩) hg).trans i0
      have HST : Hid (insK l a (k + 1) = if a < (l.getD k zI).at_ then insK l a k else k + 1) := rfl
      have hgl : g < wr.heap.size := by omega
      have hkN : (k : Int) < (N : Int) := by omega
      generalize (l.getD k zI).at_ = b at i0 HST
      by_cases hab : a < b
      · have hd : decide (a < b) = true := decide_eq_true hab
        have HS2 := Lib.hid (HIN.out.trans (HST.out.trans (if_pos hab)))
        go_wp2_with fail
        go_quiet (fail)
        go_wp2_with fail
        go_roundw
        case rel => exact ⟨k, by congr 1, by omega, HS2.out, by repeat (first | assumption | apply Gr.drewN)⟩
        case measure => simp only [RowKit.intOf]; omega
      · have hd : decide (a < b) = false := decide_eq_false hab
        have HS2 := Lib.hid (HIN.out.trans (HST.out.trans (if_neg hab)))
        go_wp2_with fail
        go_quiet (fail)
        go_wp2_with fail
        go_meet
        exact ⟨k + 1, by congr 1, by omega, HS2.out, by repeat (first | assumption | apply Gr.drewN)⟩
  case rest =>
    clear p2
    obtain ⟨k, rfl, hk, hK, hG⟩ := hcut
    have hGb := hG.below
    have bC := b1.trans (hGb.mono b1.size)
    have rP2 := rP.bel hGb
    have rX2 := rX.bel hGb
    have ownC : wc.ownsRow 0 125 2 (.slice xv N cv) N (flatI l) := by
      have h := HA.out.own
      rw [HN.out] at h
      exact Chg.own (ms := fun _ => False) h (Chg.ofBelow bC) (fun _ _ h => h)
    have hvP' : ∀ g, (Value.slice xv N cv).ownBlock = some g → ms g ∧ g ≠ P := fun g e => hvP g (by rw [HN.out]; exact e)
    have lPc := rP2.lt
    have lXc := rX2.lt
    have p2 := rP2.cell 2
    simp at p2
    have HK := Lib.hid hK
    have hkI : (k : Int) ≤ (N : Int) := by omega
    have hk0 : (0 : Int) ≤ (k : Int) := by omega
    have sC := bC.size
    have hXw : w.heap.size ≤ X := by rw [HX.out]; omega
    clear rP rX hG hGb hvP hK b1 HI1 lP1 lX1 HW1
    go_wp2_with (at_builtin; (refine wpList_append_any _ rfl (.tmp 32) (.tmp 34) 115 rfl 0 125 i (.agg #[.int .u64 0, .slice none 0 0]) 2 32 Try.underlying115 hi hzz hs hbb rfl (by decide) (.slice xv N cv) N (flatI l) rfl (ownC.alloc _) (some ⟨wc.heap.size, 0, none⟩) 1 1 [.int .u64 0, .slice none 0 0] rfl rfl (.inr ⟨_, rfl, newsOf _ _ _⟩) (fun u hu => by simp at hu; rcases hu with rfl | rfl <;> rfl) (by simp [maxLen]; omega) (by omega) (Nat.zero_le _) ?_; intro v7 w7 own7 hgrow7 hat7; obtain ⟨g, c, cur, rfl, r7, hc1, hc2, hcs, htk⟩ := ownGe own7 (by omega); have rP7 := (Chg.ofGrown hgrow7).row (rP2.bel ((Below.refl _ _).alloc (Nat.le_refl _) _)) (fun e => (hvP' P e).2 rfl); have y2 := rP7.cell 2; simp at y2; have yf := RowIs.fz rP7 2; have lP7 := rP7.lt))
    have hgP : g ≠ P := by
      rcases hat7 with h | h
      · exact (hvP' g h.symm).2
      · simp [Value.ownBlock] at h; omega
    have hvX : ∀ j, (Value.slice xv N cv).ownBlock = some j → j < w.heap.size := fun j e => by
      have h := HA.out.own
      rw [HN.out] at h
      exact (h.lt j e).2
    have rX7 := (Chg.ofGrown hgrow7).row (rX2.bel ((Below.refl _ _).alloc (Nat.le_refl _) _)) (fun e => by have := hvX X e; omega)
    have hgX : g ≠ X := by
      rcases hat7 with h | h
      · intro e; have := hvX g h.symm; omega
      · simp [Value.ownBlock] at h; omega
    have C7 : Chg (fun i => i = P ∨ (Value.slice xv N cv).ownBlock = some i) w w7 := (Chg.ofBelow (ms := fun i => i = P ∨ (Value.slice xv N cv).ownBlock = some i) bC).trans ((Chg.alloc (ms := fun i => (Value.slice xv N cv).ownBlock = some i) _ _).trans (Chg.ofGrown hgrow7) (fun i h => .inl h)) (fun i h => .inl (.inr h))
    have hgv : ∀ j, (Value.slice (some ⟨g, 0, none⟩) (N + 1) c).ownBlock = some j → (Value.slice xv N cv).ownBlock = some j ∨ w.heap.size ≤ j := fun j e => by
      rcases hat7 with h | h
      · exact .inl (h.symm.trans e)
      · right; rw [h] at e; simp at e; omega
    obtain ⟨w8, hw8⟩ : ∃ w8, w8 = w7.setCell ⟨P, 2, none⟩ (.slice (some ⟨g, 0, none⟩) (N + 1) c) := ⟨_, rfl⟩
    have C8 : Chg (fun i => i = P ∨ (Value.slice xv N cv).ownBlock = some i) w w8 := by rw [hw8]; exact C7.trans (Chg.setCell _ _ _ _) (fun i h => .inl (.inl h))
    have rP8 : RowIs w8 P 117 #[.slice xf nf cf, .int .i64 n, .slice (some ⟨g, 0, none⟩) (N + 1) c] := by rw [hw8]; exact heap_set_self w7 P 2 _ _ _ _ rP7
    have r8 : RowIs w8 g 125 cur := by rw [hw8]; exact (Chg.setCell _ _ _ _).row r7 hgP
    have rX8 : RowIs w8 X 125 #[.int .u64 a, .slice bx bl bc] := by rw [hw8]; exact (Chg.setCell _ _ _ _).row rX7 (fun e => hPX e.symm)
    rw [← hw8]
    have y2 := rP8.cell 2
    simp at y2
    have lP8 := rP8.lt
    clear hw8 hgrow7 hat7 own7 r7 rP7 rX7 rP2 rX2 ownC C7 p2 lPc lXc yf lP7 hvX
    have hk1 : IntKind.i64.wrap ((k : Int) + 1) = (k : Int) + 1 := by rw [IntKind.wrap_i64]; omega
    have e1 : (0 : Int) ≤ (k : Int) + 1 := by omega
    have e2 : (k : Int) + 1 ≤ (N : Int) + 1 := by omega
    have e3 : (k : Int) ≤ (N : Int) + 1 := by omega
    have e4 : ((N : Int) + 1) ≤ (c : Int) := by omega
    have hcur : ∃ R, cur.toList = flatI l ++ (.int .u64 0 :: .slice none 0 0 :: R) := ⟨cur.toList.drop ((N + 1) * 2), (List.take_append_drop ((N + 1) * 2) cur.toList).symm.trans (by rw [htk]; simp)⟩
    have hone : ∀ u ∈ flatI (l.drop k), u.oneCell' = true := fun u hu => by
      obtain ⟨d, hd, hu⟩ := List.mem_flatMap.1 hu
      have hdl := List.mem_of_mem_drop hd
      simp only [List.mem_cons, List.not_mem_nil, or_false] at hu
      rcases hu with rfl | rfl
      · rfl
      · exact (HA.out.its d hdl).2.2
    have HCU := Lib.hid hcur
    have HON := Lib.hid hone
    clear hcur hone htk
    by_cases hkN : k = N
    · subst hkN
      by_cases hcN : c = k + 1
      · subst hcN
        have e5 : ¬ (k + 1 = k) := by omega
        refine region_tail 13 (by kernel_rfl) (by kernel_rfl) ?_
        simp only [List.take_succ_cons, List.take_zero, List.drop_succ_cons, List.drop_zero]
        repeat still_step
        refine wpStill_nil ?_
        refine Lib.wpList_copy_run _ rfl (.tmp 44) (.tmp 50) 115 115 rfl _ _ rfl rfl (run_copy_zeroN _ 115 115 _ 125 2 _ _ _ _ _ _ Try.underlying115 (by kernel_rfl) (by show min _ _ = 0; omega)) ?_
        obtain ⟨cur9, hcur9⟩ : ∃ cur9, cur9 = cur := ⟨_, rfl⟩
        obtain ⟨w9, hw9⟩ : ∃ w9, w9 = w8.drew := ⟨_, rfl⟩
        have S9 : ∃ y z R, cur9.toList = flatI (l.take k) ++ y :: z :: (flatI (l.drop k) ++ R) := by
          rw [hcur9]
          obtain ⟨R, hR⟩ := HCU.out
          refine ⟨.int .u64 0, .slice none 0 0, R, hR.trans ?_⟩
          rw [List.take_of_length_le (by rw [HN.out]; omega), List.drop_eq_nil_of_le (by rw [HN.out]; omega)]
          rfl
        have hs9 : cur9.size = (k + 1) * 2 := by
          rw [hcur9]
          exact hcs
        have D9 : Chg (fun i => i = g) w8 w9 := by
          rw [hw9]
          exact Chg.ofBelow (Gr.below (Gr.drew (Gr.refl _)))
        have r9 : RowIs w9 g 125 cur9 := by
          rw [hw9]
          rw [hcur9]; exact r8
        have rP9 := D9.row rP8 (fun e => hgP e.symm)
        have rX9 := D9.row rX8 (fun e => hgX e.symm)
        have hgv' : ∀ j, (Value.slice (some ⟨g, 0, none⟩) (k + 1) (k + 1)).ownBlock = some j → (Value.slice xv k cv).ownBlock = some j ∨ w.heap.size ≤ j := hgv
        have C9 : Chg (fun i => i = P ∨ (Value.slice xv k cv).ownBlock = some i) w w9 := C8.trans D9 (fun i e => by
          rw [e]
          rcases hgv' g rfl with h | h
          · exact .inl (.inr h)
          · exact .inr h)
        rw [← hw9]
        obtain ⟨y, z, R, hR9⟩ := S9
        have hA9 : (flatI (l.take k)).length = k * 2 := by rw [flatI_len, List.length_take, Nat.min_eq_left (by rw [HN.out]; omega)]
        have n1 : w9.cell? ⟨g, k * 2, none⟩ = some y := by
          rw [r9.cell, ← Array.getElem?_toList, hR9, List.getElem?_append_right (by omega), hA9, Nat.sub_self]
          rfl
        have n2 : w9.cell? ⟨g, k * 2 + 1, none⟩ = some z := by
          rw [r9.cell, ← Array.getElem?_toList, hR9, List.getElem?_append_right (by omega), hA9, show k * 2 + 1 - k * 2 = 1 by omega]
          rfl
        have f1 := RowIs.fz r9 (k * 2)
        have f2 := RowIs.fz r9 (k * 2 + 1)
        have y2 := rP9.cell 2
        have x0 := rX9.cell 0
        have x1 := rX9.cell 1
        simp at y2 x0 x1
        have HR9 := Lib.hid hR9
        have hki : (k : Int) < (k : Int) + 1 := by omega
        clear hw9 hcur9 hR9 hA9 D9 C8 rP8 r8 rX8
        go_wp2_with fail
        refine region_tail 7 (by kernel_rfl) (by kernel_rfl) ?_
        simp only [List.take_succ_cons, List.take_zero, List.drop_succ_cons, List.drop_zero]
        repeat still_step
        refine wpStill_nil ?_
        go_wp2_with fail
        go_end0
        obtain ⟨wT, hwT⟩ : ∃ wT, wT = ((w9.setCell ⟨g, k * 2, none⟩ (.int .u64 a)).setCell ⟨g, k * 2 + 1, none⟩ (.slice bx bl bc)).drew := ⟨_, rfl⟩
        have DT : Chg (fun i => i = g) w9 wT := by
          rw [hwT]
          exact ((Chg.setCell _ _ _ _).trans (Chg.setCell _ _ _ _) (fun i e => .inl e)).trans (Chg.ofBelow (ms := fun i => i = g) (Gr.below (Gr.drew (Gr.refl _)))) (fun i e => .inl e)
        have rT : RowIs wT g 125 ((cur9.setIfInBounds (k * 2) (.int .u64 a)).setIfInBounds (k * 2 + 1) (.slice bx bl bc)) := by
          rw [hwT]
          exact heap_set_self _ g (k * 2 + 1) _ _ _ _ (heap_set_self _ g (k * 2) _ _ _ _ r9)
        have rPT := DT.row rP9 (fun e => hgP e.symm)
        have CT : Chg (fun i => i = P ∨ (Value.slice xv k cv).ownBlock = some i) w wT := C9.trans DT (fun i e => by
          rw [e]
          rcases hgv' g rfl with h | h
          · exact .inl (.inr h)
          · exact .inr h)
        try rw [← hwT]
        have hdone := row_done (by rw [HN.out]; omega) HR9.out (u := .int .u64 a) (t := .slice bx bl bc)
        rw [HN.out] at hdone
        exact lay_done HA.out HB.out HN.out HNF.out ha HK.out hvP' hgv' CT rPT rT hdone (by simp [hs9]) (by omega) (by omega) hgP
      · have e5 : ¬ c = k + 1 := by omega
        have e6 : ¬ c = k := by omega
        refine region_tail 13 (by kernel_rfl) (by kernel_rfl) ?_
        simp only [List.take_succ_cons, List.take_zero, List.drop_succ_cons, List.drop_zero]
        repeat still_step
        refine wpStill_nil ?_
        refine Lib.wpList_copy_run _ rfl (.tmp 44) (.tmp 50) 115 115 rfl _ _ rfl rfl (run_copy_zeroN _ 115 115 _ 125 2 _ _ _ _ _ _ Try.underlying115 (by kernel_rfl) (by show min _ _ = 0; omega)) ?_
        obtain ⟨cur9, hcur9⟩ : ∃ cur9, cur9 = cur := ⟨_, rfl⟩
        obtain ⟨w9, hw9⟩ : ∃ w9, w9 = w8.drew := ⟨_, rfl⟩
        have S9 : ∃ y z R, cur9.toList = flatI (l.take k) ++ y :: z :: (flatI (l.drop k) ++ R) := by
          rw [hcur9]
          obtain ⟨R, hR⟩ := HCU.out
          refine ⟨.int .u64 0, .slice none 0 0, R, hR.trans ?_⟩
          rw [List.take_of_length_le (by rw [HN.out]; omega), List.drop_eq_nil_of_le (by rw [HN.out]; omega)]
          rfl
        have hs9 : cur9.size = (c) * 2 := by
          rw [hcur9]
          exact hcs
        have D9 : Chg (fun i => i = g) w8 w9 := by
          rw [hw9]
          exact Chg.ofBelow (Gr.below (Gr.drew (Gr.refl _)))
        have r9 : RowIs w9 g 125 cur9 := by
          rw [hw9]
          rw [hcur9]; exact r8
        have rP9 := D9.row rP8 (fun e => hgP e.symm)
        have rX9 := D9.row rX8 (fun e => hgX e.symm)
        have hgv' : ∀ j, (Value.slice (some ⟨g, 0, none⟩) (k + 1) (c)).ownBlock = some j → (Value.slice xv k cv).ownBlock = some j ∨ w.heap.size ≤ j := hgv
        have C9 : Chg (fun i => i = P ∨ (Value.slice xv k cv).ownBlock = some i) w w9 := C8.trans D9 (fun i e => by
          rw [e]
          rcases hgv' g rfl with h | h
          · exact .inl (.inr h)
          · exact .inr h)
        rw [← hw9]
        obtain ⟨y, z, R, hR9⟩ := S9
        have hA9 : (flatI (l.take k)).length = k * 2 := by rw [flatI_len, List.length_take, Nat.min_eq_left (by rw [HN.out]; omega)]
        have n1 : w9.cell? ⟨g, k * 2, none⟩ = some y := by
          rw [r9.cell, ← Array.getElem?_toList, hR9, List.getElem?_append_right (by omega), hA9, Nat.sub_self]
          rfl
        have n2 : w9.cell? ⟨g, k * 2 + 1, none⟩ = some z := by
          rw [r9.cell, ← Array.getElem?_toList, hR9, List.getElem?_append_right (by omega), hA9, show k * 2 + 1 - k * 2 = 1 by omega]
          rfl
        have f1 := RowIs.fz r9 (k * 2)
        have f2 := RowIs.fz r9 (k * 2 + 1)
        have y2 := rP9.cell 2
        have x0 := rX9.cell 0
        have x1 := rX9.cell 1
        simp at y2 x0 x1
        have HR9 := Lib.hid hR9
        have hki : (k : Int) < (k : Int) + 1 := by omega
        clear hw9 hcur9 hR9 hA9 D9 C8 rP8 r8 rX8
        go_wp2_with fail
        refine region_tail 7 (by kernel_rfl) (by kernel_rfl) ?_
        simp only [List.take_succ_cons, List.take_zero, List.drop_succ_cons, List.drop_zero]
        repeat still_step
        refine wpStill_nil ?_
        go_wp2_with fail
        go_end0
        obtain ⟨wT, hwT⟩ : ∃ wT, wT = ((w9.setCell ⟨g, k * 2, none⟩ (.int .u64 a)).setCell ⟨g, k * 2 + 1, none⟩ (.slice bx bl bc)).drew := ⟨_, rfl⟩
        have DT : Chg (fun i => i = g) w9 wT := by
          rw [hwT]
          exact ((Chg.setCell _ _ _ _).trans (Chg.setCell _ _ _ _) (fun i e => .inl e)).trans (Chg.ofBelow (ms := fun i => i = g) (Gr.below (Gr.drew (Gr.refl _)))) (fun i e => .inl e)
        have rT : RowIs wT g 125 ((cur9.setIfInBounds (k * 2) (.int .u64 a)).setIfInBounds (k * 2 + 1) (.slice bx bl bc)) := by
          rw [hwT]
          exact heap_set_self _ g (k * 2 + 1) _ _ _ _ (heap_set_self _ g (k * 2) _ _ _ _ r9)
        have rPT := DT.row rP9 (fun e => hgP e.symm)
        have CT : Chg (fun i => i = P ∨ (Value.slice xv k cv).ownBlock = some i) w wT := C9.trans DT (fun i e => by
          rw [e]
          rcases hgv' g rfl with h | h
          · exact .inl (.inr h)
          · exact .inr h)
        try rw [← hwT]
        have hdone := row_done (by rw [HN.out]; omega) HR9.out (u := .int .u64 a) (t := .slice bx bl bc)
        rw [HN.out] at hdone
        exact lay_done HA.out HB.out HN.out HNF.out ha HK.out hvP' hgv' CT rPT rT hdone (by simp [hs9]) (by omega) (by omega) hgP
    have e5 : ¬ c = k + 1 := by omega
    have e6 : ¬ c = k := by omega
    refine region_tail 13 (by kernel_rfl) (by kernel_rfl) ?_
    simp only [List.take_succ_cons, List.take_zero, List.drop_succ_cons, List.drop_zero]
    repeat still_step
    refine wpStill_nil ?_
    have hlk : k < l.length := by rw [HN.out]; omega
    have r8' : RowIs w8.drew g 125 cur := r8
    have hlen : (flatI (l.drop k)).length = (N - k) * 2 := by rw [flatI_len, List.length_drop, HN.out]
    have hsrc : ∀ j u, (flatI (l.drop k))[j]? = some u → w8.drew.cell? ((⟨g, k * 2, none⟩ : Addr).add j) = some u := fun j u hu => by
      obtain ⟨R, hR⟩ := HCU.out
      rw [addr_add, cell_of_row _ _ _ _ _ _ r8'.un]
      have hj : j < (flatI (l.drop k)).length := (List.getElem?_eq_some_iff.1 hu).1
      rw [← Array.getElem?_toList, hR, List.getElem?_append_left (by rw [flatI_len, HN.out]; omega)]
      rw [← flatI_drop l k (by omega), List.getElem?_drop] at hu
      exact hu
    refine Lib.wpList_copy_run _ rfl (.tmp 44) (.tmp 50) 115 115 rfl _ _ rfl rfl (run_copy_rowN _ 115 115 _ 125 2 g ((k + 1) * 2) (N - k) (c - (k + 1)) ⟨g, k * 2, none⟩ (N + 1 - k) (c - k) cur 125 (flatI (l.drop k)) (N - k) Try.underlying115 (by kernel_rfl) r8'.un (by show _ = min _ _; omega) hlen hsrc (by rw [hlen, hcs]; omega) HON.out) ?_
    obtain ⟨cur9, hcur9⟩ : ∃ cur9, cur9 = (cur.toList.take ((k + 1) * 2) ++ flatI (l.drop k) ++ cur.toList.drop ((k + 1) * 2 + (flatI (l.drop k)).length)).toArray := ⟨_, rfl⟩
    obtain ⟨w9, hw9⟩ : ∃ w9, w9 = w8.drew.setRow g (cur.toList.take ((k + 1) * 2) ++ flatI (l.drop k) ++ cur.toList.drop ((k + 1) * 2 + (flatI (l.drop k)).length)).toArray := ⟨_, rfl⟩
    have S9 : ∃ y z R, cur9.toList = flatI (l.take k) ++ y :: z :: (flatI (l.drop k) ++ R) := by
      rw [hcur9]
      obtain ⟨R, hR⟩ := HCU.out
      have e := flatI_take1 l k hlk
      refine ⟨.int .u64 (l.getD k zI).at_, (l.getD k zI).v, cur.toList.drop ((k + 1) * 2 + (flatI (l.drop k)).length), ?_⟩
      show cur.toList.take ((k + 1) * 2) ++ flatI (l.drop k) ++ _ = _
      rw [show cur.toList.take ((k + 1) * 2) = flatI (l.take k) ++ [.int .u64 (l.getD k zI).at_, (l.getD k zI).v] by rw [hR, List.take_append_of_le_length (by rw [flatI_len, HN.out]; omega), e]]
      simp
    have hs9 : cur9.size = (c) * 2 := by
      rw [hcur9]
      have h1 : cur.toList.length = c * 2 := by rw [Array.length_toList, hcs]
      simp only [List.size_toArray, List.length_append, List.length_take, List.length_drop, hlen, h1]
      omega
    have D9 : Chg (fun i => i = g) w8 w9 := by
      rw [hw9]
      exact (Chg.ofBelow (ms := fun i => i = g) (Gr.below (Gr.drew (Gr.refl _)))).trans (Chg.setRow _ _ _) (fun i e => .inl e)
    have r9 : RowIs w9 g 125 cur9 := by
      rw [hw9]
      rw [hcur9]; exact setRow_heap _ _ _ _ _ _ r8
    have rP9 := D9.row rP8 (fun e => hgP e.symm)
    have rX9 := D9.row rX8 (fun e => hgX e.symm)
    have hgv' : ∀ j, (Value.slice (some ⟨g, 0, none⟩) (N + 1) (c)).ownBlock = some j → (Value.slice xv N cv).ownBlock = some j ∨ w.heap.size ≤ j := hgv
    have C9 : Chg (fun i => i = P ∨ (Value.slice xv N cv).ownBlock = some i) w w9 := C8.trans D9 (fun i e => by
      rw [e]
      rcases hgv' g rfl with h | h
      · exact .inl (.inr h)
      · exact .inr h)
    rw [← hw9]
    obtain ⟨y, z, R, hR9⟩ := S9
    have hA9 : (flatI (l.take k)).length = k * 2 := by rw [flatI_len, List.length_take, Nat.min_eq_left (by rw [HN.out]; omega)]
    have n1 : w9.cell? ⟨g, k * 2, none⟩ = some y := by
      rw [r9.cell, ← Array.getElem?_toList, hR9, List.getElem?_append_right (by omega), hA9, Nat.sub_self]
      rfl
    have n2 : w9.cell? ⟨g, k * 2 + 1, none⟩ = some z := by
      rw [r9.cell, ← Array.getElem?_toList, hR9, List.getElem?_append_right (by omega), hA9, show k * 2 + 1 - k * 2 = 1 by omega]
      rfl
    have f1 := RowIs.fz r9 (k * 2)
    have f2 := RowIs.fz r9 (k * 2 + 1)
    have y2 := rP9.cell 2
    have x0 := rX9.cell 0
    have x1 := rX9.cell 1
    simp at y2 x0 x1
    have HR9 := Lib.hid hR9
    have hki : (k : Int) < (N : Int) + 1 := by omega
    clear hw9 hcur9 hR9 hA9 D9 C8 rP8 r8 rX8
    go_wp2_with fail
    refine region_tail 7 (by kernel_rfl) (by kernel_rfl) ?_
    simp only [List.take_succ_cons, List.take_zero, List.drop_succ_cons, List.drop_zero]
    repeat still_step
    refine wpStill_nil ?_
    go_wp2_with fail
    go_end0
    obtain ⟨wT, hwT⟩ : ∃ wT, wT = ((w9.setCell ⟨g, k * 2, none⟩ (.int .u64 a)).setCell ⟨g, k * 2 + 1, none⟩ (.slice bx bl bc)).drew := ⟨_, rfl⟩
    have DT : Chg (fun i => i = g) w9 wT := by
      rw [hwT]
      exact ((Chg.setCell _ _ _ _).trans (Chg.setCell _ _ _ _) (fun i e => .inl e)).trans (Chg.ofBelow (ms := fun i => i = g) (Gr.below (Gr.drew (Gr.refl _)))) (fun i e => .inl e)
    have rT : RowIs wT g 125 ((cur9.setIfInBounds (k * 2) (.int .u64 a)).setIfInBounds (k * 2 + 1) (.slice bx bl bc)) := by
      rw [hwT]
      exact heap_set_self _ g (k * 2 + 1) _ _ _ _ (heap_set_self _ g (k * 2) _ _ _ _ r9)
    have rPT := DT.row rP9 (fun e => hgP e.symm)
    have CT : Chg (fun i => i = P ∨ (Value.slice xv N cv).ownBlock = some i) w wT := C9.trans DT (fun i e => by
      rw [e]
      rcases hgv' g rfl with h | h
      · exact .inl (.inr h)
      · exact .inr h)
    try rw [← hwT]
    have hdone := row_done (by rw [HN.out]; omega) HR9.out (u := .int .u64 a) (t := .slice bx bl bc)
    rw [HN.out] at hdone
    exact lay_done HA.out HB.out HN.out HNF.out ha HK.out hvP' hgv' CT rPT rT hdone (by simp [hs9]) (by omega) (by omega) hgP

end Go.Proofs.Ytikkmdbaekdolaa
