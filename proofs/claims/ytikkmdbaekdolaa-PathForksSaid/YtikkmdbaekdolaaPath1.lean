/- package path: New, Waits, Count, First; what a way holds. -/
import Derived.Test.YtikkmdbaekdolaaPath0
import Derived.BigQuiet
namespace Go.Proofs.Ytikkmdbaekdolaa
open Go.RowKit Go.Lib
set_option linter.unusedVariables false
set_option maxRecDepth 100000

/-- items as they are read -/
def ItAt (w : World) (g o : Nat) (l : List Itm) : Prop := g < w.heap.size ∧ ∀ i, i < l.length → w.cell? ⟨g, o + i * 2, none⟩ = some (.int .u64 (l.getD i zI).at_) ∧ w.cell? ⟨g, o + i * 2 + 1, none⟩ = some (l.getD i zI).v
def IRow (w : World) (x : Option Addr) (l : List Itm) : Prop := l = [] ∨ ∃ g o, x = some ⟨g, o, none⟩ ∧ ItAt w g o l
theorem itOfOwn {w : World} {B n : Nat} {v : Value} {l : List Itm} (hn : l.length = n) (h : w.ownsRow B 125 2 v n (flatI l)) : ∃ x c, v = .slice x n c ∧ IRow w x l := by
  obtain ⟨hlen, ⟨rfl, h2⟩ | ⟨g, c, cur, rfl, hg, hheap, hc, hm, hcs, htake⟩⟩ := h
  · subst h2
    exact ⟨none, 0, rfl, .inl (List.eq_nil_of_length_eq_zero hn)⟩
  · refine ⟨_, c, rfl, .inr ⟨g, 0, rfl, (Array.getElem?_eq_some_iff.1 hheap).1, fun i hi => ?_⟩⟩
    obtain ⟨e1, e2⟩ := flatI_at l i hi
    rw [← htake, List.getElem?_take, if_pos (by omega)] at e1 e2
    exact ⟨by rw [cell_of_row w g _ cur _ _ hheap, Nat.zero_add]; simpa using e1, by rw [cell_of_row w g _ cur _ _ hheap, Nat.zero_add]; simpa using e2⟩
/-- the blocks that may turn are there -/
def MsL (w : World) (ms : Nat → Prop) : Prop := ∀ g, ms g → g < w.heap.size
/-- a way: its fates, how many were put, its items in a row of its own -/
structure PipeAt (w : World) (ms : Nat → Prop) (P : Nat) (xf : Option Addr) (cf : Nat) (fl : List FateP) (n : Int) (v : Value) (l : List Itm) : Prop where
  row : RowIs w P 117 #[.slice xf fl.length cf, .int .i64 n, v]
  mine : ms P
  msl : MsL w ms
  fates : FRow w xf fl
  fatesF : ∀ g o, xf = some ⟨g, o, none⟩ → g < w.heap.size ∧ ¬ ms g
  own : w.ownsRow 0 125 2 v l.length (flatI l)
  vms : ∀ g, v.ownBlock = some g → ms g ∧ g ≠ P
  its : ∀ d ∈ l, W64 d.at_ ∧ BodyF w ms d.v d.bs ∧ d.v.oneCell' = true
/-- a way that a step of others leaves alone -/
theorem PipeAt.chg {w w' : World} {ms ms0 ms' : Nat → Prop} {P : Nat} {xf : Option Addr} {cf : Nat} {fl : List FateP} {n : Int} {v : Value} {l : List Itm} (h : PipeAt w ms P xf cf fl n v l) (k : Chg ms0 w w')
    (hP : ¬ ms0 P) (hv : ∀ g, v.ownBlock = some g → ¬ ms0 g) (h0 : ∀ i, i < w.heap.size → ms0 i → ms i) (h1 : ∀ i, i < w.heap.size → ms' i → ms i) (h2 : ∀ i, ms i → ms' i) (h3 : MsL w' ms') : PipeAt w' ms' P xf cf fl n v l where
  row := k.row h.row hP
  mine := h2 _ h.mine
  msl := h3
  fates := h.fates.chg k (fun g o hne e hm => by
    rcases h.fates with he | ⟨g', o', e', hl, _⟩
    · exact hne he
    · rw [e] at e'
      cases e'
      exact (h.fatesF g o e).2 (h0 g hl hm))
  fatesF := fun g o e => ⟨Nat.lt_of_lt_of_le (h.fatesF g o e).1 k.size, fun hm => (h.fatesF g o e).2 (h1 g (h.fatesF g o e).1 hm)⟩
  own := k.own h.own hv
  vms := fun g e => ⟨h2 _ (h.vms g e).1, (h.vms g e).2⟩
  its := fun d hd => ⟨(h.its d hd).1, (h.its d hd).2.1.chg k h0 h1, (h.its d hd).2.2⟩

set_option maxHeartbeats 4000000 in
theorem pNew (ms : Nat → Prop) (x : Option Addr) (c : Nat) (fl : List FateP) (hx : x = none → fl = []) (hb : fl.length * 16 ≤ 140737488355328) (w : World) (hms : MsL w ms) (hF : FRow w x fl) :
    Calls Try.prog 23 #[.slice x fl.length c] w fun e w' => ∃ P xf cf, e = .returned (.pointer (some ⟨P, 0, none⟩)) ∧ Below w.heap.size w w' ∧ w.heap.size ≤ P ∧ PipeAt w' (fun g => ms g ∨ g = P) P xf cf fl 0 (.slice none 0 0) [] := by
  obtain ⟨i, hi, hzz, hs, hbb⟩ := info_parts (P := Try.prog) (e := 119) (z := (.agg #[.bool false, .bool false, .bool false, .int .u64 0])) (size := 4) (bytes := 16) (by kernel_rfl)
  have HX := Lib.hid hx
  have HF := Lib.hid hF
  obtain ⟨n, hn⟩ : ∃ n, fl.length = n := ⟨_, rfl⟩
  have HN := Lib.hid hn
  rw [hn] at hb ⊢
  clear hx hF hn
  go_enter Try.func23, Try.ntmps23
  go_wp2_with (at_builtin; (refine wpList_append_any _ rfl (.const (.slice none 0 0)) (.tmp 3) 53 rfl w.heap.size 119 i (.agg #[.bool false, .bool false, .bool false, .int .u64 0]) 4 16 Try.underlying53 hi hzz hs hbb rfl (by decide) (.slice none 0 0) 0 [] rfl (World.ownsRow_nil _ _ _ _) x n c (flatFa fl) rfl (by rw [flatFa_len, HN.out]) (HN.out ▸ FRow.news HX.out HF.out) (flatFa_one _) (by simp [maxLen]; omega) (by omega) (Nat.le_refl _) ?_; intro v5 w5 own5 hgrow5 hat5; simp only [Nat.zero_add, List.nil_append] at own5; obtain ⟨xf, cf, rfl, hfr, hfx, hfb⟩ := fateOfOwn HN.out own5))
  have b5 : Below w.heap.size w w5 := below_grown (Below.refl _ _) hgrow5 (Nat.le_refl _)
  have s5 := b5.size
  clear own5 hgrow5 hat5
  go_ret
  have bA : Below w5.heap.size w5 (w5.alloc (.cells #[.slice xf n cf, .int .i64 0, .slice none 0 0] 117 (0, 0))) := (Below.refl _ _).alloc (Nat.le_refl _) _
  have hN := HN.out
  refine ⟨w5.heap.size, xf, cf, rfl, b5.trans (bA.mono s5), s5, { row := ?_, mine := .inr rfl, msl := ?_, fates := ?_, fatesF := ?_, own := World.ownsRow_nil _ _ _ _, vms := (fun g h => (by cases h)), its := fun d hd => absurd hd (by simp) }⟩
  · rw [hN]
    exact RowIs.mk (heap_alloc_new w5 _)
  · intro g hg
    rcases hg with hg | rfl
    · have := hms g hg
      simp
      omega
    · simp
  · exact hfr.chg (Chg.alloc (ms := fun _ => False) _ _) (fun _ _ _ _ h => h)
  · intro g o e
    obtain ⟨h1, h2⟩ := hfb g o e
    refine ⟨by simp; omega, fun h => ?_⟩
    rcases h with h | h
    · have := hms g h
      omega
    · omega

set_option maxHeartbeats 1000000 in
theorem pWaits (P : Nat) (f0 : Value) (n : Int) (x : Option Addr) (k c : Nat) (hk : k ≤ 1000000) (w : World) (hR : RowIs w P 117 #[f0, .int .i64 n, .slice x k c]) :
    Calls Try.prog 26 #[.pointer (some ⟨P, 0, none⟩)] w fun e w' => e = .returned (.int .i64 (k : Int)) ∧ w = w' := by
  have a2 := hR.cell 2
  simp at a2
  have hl := hR.lt
  go_enter Try.func26, Try.ntmps26
  go_wp2_with fail
  go_ret
  exact ⟨rfl, rfl⟩

set_option maxHeartbeats 1000000 in
theorem pCount (P : Nat) (f0 f2 : Value) (n : Int) (w : World) (hR : RowIs w P 117 #[f0, .int .i64 n, f2]) :
    Calls Try.prog 34 #[.pointer (some ⟨P, 0, none⟩)] w fun e w' => e = .returned (.int .i64 n) ∧ w = w' := by
  have a1 := hR.cell 1
  simp at a1
  have hl := hR.lt
  go_enter Try.func34, Try.ntmps34
  go_wp2_with fail
  go_ret
  exact ⟨rfl, rfl⟩

set_option maxHeartbeats 1000000 in
theorem pFirst (P : Nat) (f0 : Value) (n : Int) (x : Option Addr) (c : Nat) (l : List Itm) (hk : l.length ≤ 1000000) (w : World) (hR : RowIs w P 117 #[f0, .int .i64 n, .slice x l.length c]) (hI : IRow w x l) :
    Calls Try.prog 30 #[.pointer (some ⟨P, 0, none⟩)] w fun e w' => e = .returned (.int .u64 (if l.length = 0 then 18446744073709551615 else (l.getD 0 zI).at_)) ∧ w = w' := by
  have a2 := hR.cell 2
  simp at a2
  have hl := hR.lt
  obtain ⟨k, hkk⟩ : ∃ k, l.length = k := ⟨_, rfl⟩
  have HK := Lib.hid hkk
  rw [hkk] at hk a2 ⊢
  by_cases h0 : k = 0
  · subst h0
    clear hkk
    go_enter Try.func30, Try.ntmps30
    go_wp2_with fail
    go_ret
    exact ⟨rfl, rfl⟩
  · rcases hI with rfl | ⟨g, o, rfl, hg, hc⟩
    · exact absurd hkk.symm h0
    obtain ⟨q0, q1⟩ := hc 0 (by rw [HK.out]; omega)
    rw [Nat.zero_mul, Nat.add_zero] at q0
    have h0' : ((k : Int) == 0) = false := by rw [beq_eq_false_iff_ne]; omega
    have hki : (0 : Int) < (k : Int) := by omega
    have hkn : 0 < k := by omega
    generalize (l.getD 0 zI).at_ = a at q0
    rw [if_neg h0]
    clear hkk hc q1 h0
    go_enter Try.func30, Try.ntmps30
    go_wp2_with fail
    go_ret
    exact ⟨rfl, rfl⟩

end Go.Proofs.Ytikkmdbaekdolaa
