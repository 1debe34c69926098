/- Several texts one behind the other: Path7, Path8, Path9, Path10, RegS, Path11. -/
import Derived.Test.YtikkmdbaekdolaaPath3
import Derived.Test.YtikkmdbaekdolaaPath1
import Derived.Test.YtikkmdbaekdolaaPath4
import Derived.Test.YtikkmdbaekdolaaPath5
import Derived.Test.YtikkmdbaekdolaaCopy
import Derived.Deep.RegionHeld3
import Derived.StillTailTactics
import Derived.Test.YtikkmdbaekdolaaHoldB
/- ways: what the reference takes, the first least one again and again, is the row as the way keeps it. -/
namespace Go.Proofs.Ytikkmdbaekdolaa
set_option linter.unusedVariables false
set_option maxRecDepth 100000

/-- put one behind the other -/
def sortS (L : List (Int × List Int)) : List (Int × List Int) := L.foldl insS []
theorem sortS_snoc (L : List (Int × List Int)) (x : Int × List Int) : sortS (L ++ [x]) = insS (sortS L) x := by simp [sortS]
/-- what the reference holds behind a datagram that was put -/
def rputS (fl : List FateP) (n : Nat) (L : List (Int × List Int)) (now : Int) (bs : List Int) : List (Int × List Int) :=
  let f := fl.getD n zF
  if f.drop = true then L else
    let x : Int × List Int := (addI now f.delay, if f.mark = true then markF bs else bs)
    if f.twice = true then (L ++ [x]) ++ [x] else L ++ [x]
theorem rputS_sort (fl : List FateP) (n : Nat) (L : List (Int × List Int)) (now : Int) (bs : List Int) : sortS (rputS fl n L now bs) = putS fl n (sortS L) now bs := by
  unfold rputS putS
  dsimp only
  split
  · rfl
  · split
    · rw [sortS_snoc, sortS_snoc]
    · rw [sortS_snoc]
theorem insKS_cons (m : Int × List Int) (S : List (Int × List Int)) (a : Int) (h : m.1 ≤ a) : ∀ k, insKS (m :: S) a (k + 1) = insKS S a k + 1
  | 0 => by
    unfold insKS
    rw [if_neg (by simp; omega)]
  | k + 1 => by
    unfold insKS
    rw [List.getD_cons_succ]
    split
    · exact insKS_cons m S a h k
    · rfl
theorem insS_cons (m x : Int × List Int) (S : List (Int × List Int)) (h : m.1 ≤ x.1) : insS (m :: S) x = m :: insS S x := by
  unfold insS
  rw [List.length_cons, insKS_cons m S x.1 h, List.take_succ_cons, List.drop_succ_cons, List.cons_append]
theorem insKS_zero (S : List (Int × List Int)) (a : Int) (h : ∀ p ∈ S, a < p.1) : ∀ k, k ≤ S.length → insKS S a k = 0
  | 0, _ => rfl
  | k + 1, hk => by
    unfold insKS
    have : S.getD k (0, []) ∈ S := by rw [List.getD_eq_getElem?_getD, List.getElem?_eq_getElem (by omega)]; exact List.getElem_mem _
    rw [if_pos (h _ this)]
    exact insKS_zero S a h k (by omega)
theorem insS_front (S : List (Int × List Int)) (x : Int × List Int) (h : ∀ p ∈ S, x.1 < p.1) : insS S x = x :: S := by
  unfold insS
  rw [insKS_zero S x.1 h _ (Nat.le_refl _)]
  rfl
theorem insS_memb {L : List (Int × List Int)} {x p : Int × List Int} (h : p ∈ insS L x) : p ∈ L ∨ p = x := by
  unfold insS at h
  simp only [List.mem_append, List.mem_cons] at h
  rcases h with h | h | h
  · exact .inl (List.mem_of_mem_take h)
  · exact .inr h
  · exact .inl (List.mem_of_mem_drop h)
theorem fold_mem : ∀ (A S : List (Int × List Int)) (p : Int × List Int), p ∈ A.foldl insS S → p ∈ S ∨ p ∈ A
  | [], S, p, h => .inl h
  | x :: A, S, p, h => by
    rcases fold_mem A (insS S x) p h with h | h
    · rcases insS_memb h with h | h
      · exact .inl h
      · exact .inr (by rw [h]; exact List.mem_cons_self ..)
    · exact .inr (List.mem_cons_of_mem _ h)
theorem fold_cons : ∀ (B S : List (Int × List Int)) (m : Int × List Int), (∀ p ∈ B, m.1 ≤ p.1) → B.foldl insS (m :: S) = m :: B.foldl insS S
  | [], S, m, _ => rfl
  | x :: B, S, m, h => by
    rw [List.foldl_cons, insS_cons m x S (h x (List.mem_cons_self ..)), fold_cons B _ m (fun p hp => h p (List.mem_cons_of_mem _ hp)), List.foldl_cons]
/-- the first least one comes first -/
theorem sortS_least (A B : List (Int × List Int)) (m : Int × List Int) (hA : ∀ p ∈ A, m.1 < p.1) (hB : ∀ p ∈ B, m.1 ≤ p.1) : sortS (A ++ m :: B) = m :: sortS (A ++ B) := by
  unfold sortS
  rw [List.foldl_append, List.foldl_append, List.foldl_cons, insS_front _ m (fun p hp => (fold_mem A [] p hp).elim (fun h => by cases h) (hA p)), fold_cons B _ m hB]
theorem sortS_len (L : List (Int × List Int)) : (sortS L).length = L.length := by
  have : ∀ (L S : List (Int × List Int)), (L.foldl insS S).length = L.length + S.length := by
    intro L
    induction L with
    | nil => intro S; simp
    | cons x L ih =>
      intro S
      rw [List.foldl_cons, ih]
      unfold insS
      simp
      have : insKS S x.1 S.length ≤ S.length := by
        generalize S.length = k
        induction k with
        | zero => exact Nat.le_refl _
        | succ k ih => unfold insKS; split <;> omega
      omega
  simpa [sortS] using this L []

end Go.Proofs.Ytikkmdbaekdolaa

/- the reference's way: First. -/
namespace Go.Proofs.Ytikkmdbaekdolaa
open Go.RowKit Go.Lib
set_option linter.unusedVariables false
set_option maxRecDepth 100000

/-- the first least one -/
def LeastI (l : List Itm) (n k : Nat) : Prop := (∀ m, m < k → (l.getD k zI).at_ < (l.getD m zI).at_) ∧ ∀ m, m < n → k ≤ m → (l.getD k zI).at_ ≤ (l.getD m zI).at_

set_option maxHeartbeats 4000000 in
theorem rFirst (P : Nat) (f0 f2 : Value) (x : Option Addr) (c : Nat) (l : List Itm) (hl : l.length ≤ 1000000) (hcap : l.length ≤ c) (w : World) (hR : RowIs w P 60 #[f0, .slice x l.length c, f2]) (hI : IRow w x l) :
    Calls Try.prog 69 #[.pointer (some ⟨P, 0, none⟩)] w fun e w' => w = w' ∧ ((l = [] ∧ e = .returned (.tuple #[.int .i64 (-1), .int .u64 18446744073709551615])) ∨ ∃ k : Nat, k < l.length ∧ LeastI l l.length k ∧ e = .returned (.tuple #[.int .i64 (k : Int), .int .u64 (l.getD k zI).at_])) := by
  have a2 := hR.cell 1
  simp at a2
  have hlt := hR.lt
  have HI := Lib.hid hI
  obtain ⟨n, hn⟩ : ∃ k, l.length = k := ⟨_, rfl⟩
  have HN := Lib.hid hn
  rw [hn] at hl hcap a2 ⊢
  have hnI : (n : Int) ≤ 1000000 := by omega
  clear hI hn hR
  go_enter Try.func69, Try.ntmps69
  go_wp2_with fail
  go_loopw [4, 5, 6] (fun kv av iv wr => ∃ i : Nat, iv = .int .i64 (i : Int) ∧ i ≤ n ∧ w = wr ∧ ((i = 0 ∧ kv = .int .i64 (-1) ∧ av = .int .u64 18446744073709551615) ∨ ∃ k : Nat, k < i ∧ kv = .int .i64 (k : Int) ∧ av = .int .u64 (l.getD k zI).at_ ∧ LeastI l i k)) (fun _ _ iv _ => (n - Lib.intOf iv).toNat)
  case atStart => exact ⟨0, rfl, Nat.zero_le _, rfl, .inl ⟨rfl, rfl, rfl⟩⟩
  case round =>
    obtain ⟨i, rfl, hi, rfl, hst⟩ := hrel
    by_cases hin : i < n
    case neg =>
      have hie : i = n := by omega
      have dk : decide ((i : Int) < (n : Int)) = false := decide_eq_false (by omega)
      rcases hst with ⟨h0, rfl, rfl⟩ | ⟨k, hk, rfl, rfl, hL⟩
      · have he : l = [] := List.eq_nil_of_length_eq_zero (by rw [HN.out]; omega)
        have HE := Lib.hid he
        clear he
        go_wp2_with fail
        refine bodyPost_ret (v := .tuple #[.int .i64 (-1), .int .u64 18446744073709551615]) (by simp [results, Try.results69, go_sem]) rfl ?_
        exact ⟨rfl, .inl ⟨HE.out, rfl⟩⟩
      · have HL := Lib.hid hL
        clear hL
        generalize ha : (l.getD k zI).at_ = a
        have HA := Lib.hid ha
        clear ha
        go_wp2_with fail
        refine bodyPost_ret (v := .tuple #[.int .i64 (k : Int), .int .u64 a]) (by simp [results, Try.results69, go_sem]) rfl ?_
        subst hie
        exact ⟨rfl, .inr ⟨k, hk, HL.out, by rw [HA.out]⟩⟩
    have dk : decide ((i : Int) < (n : Int)) = true := decide_eq_true (by omega)
    have hiI : (i : Int) < (n : Int) := by omega
    have hcI : (n : Int) ≤ (c : Int) := by omega
    obtain ⟨g, o, hx, hg, hc⟩ : ∃ g o, x = some ⟨g, o, none⟩ ∧ ItAt w g o l := by
      rcases HI.out with h | h
      · rw [h] at HN; have := HN.out; simp at this; omega
      · exact h
    subst hx
    obtain ⟨q0, _⟩ := hc i (by rw [HN.out]; exact hin)
    generalize hb : (l.getD i zI).at_ = b at q0
    have HB := Lib.hid hb
    clear hb hc
    rcases hst with ⟨h0, rfl, rfl⟩ | ⟨k, hk, rfl, rfl, hL⟩
    · have H0 := Lib.hid h0
      clear h0
      go_wp2_with fail
      go_roundw
      case rel => exact ⟨i + 1, by simp, by omega, (by first | rfl | trivial), .inr ⟨i, by omega, by first | rfl | simp, by rw [HB.out], fun m hm => by have := H0.out; omega, fun m hm h2 => by rw [show m = i by omega]; exact Int.le_refl _⟩⟩
      case measure => simp [Lib.intOf]; omega
    · have HL := Lib.hid hL
      clear hL
      generalize ha : (l.getD k zI).at_ = a
      have HA := Lib.hid ha
      clear ha
      have dz : decide ((k : Int) < 0) = false := decide_eq_false (by omega)
      by_cases hab : b < a
      · have dab : decide (b < a) = true := decide_eq_true hab
        go_wp2_with fail
        go_roundw
        case rel => exact ⟨i + 1, by simp, by omega, (by first | rfl | trivial), .inr ⟨i, by omega, rfl, by rw [HB.out], fun m hm => by
          rw [HB.out]
          have h1 := HL.out.1 m
          have h2 := HL.out.2 m hm
          rw [HA.out] at h1 h2
          by_cases hmk : m < k
          · have := h1 hmk; omega
          · have := h2 (by omega); omega, fun m hm hm2 => by rw [show m = i by omega]; exact Int.le_refl _⟩⟩
        case measure => simp [Lib.intOf]; omega
      · have dab : decide (b < a) = false := decide_eq_false hab
        go_wp2_with fail
        go_roundw
        case rel => exact ⟨i + 1, by simp, by omega, (by first | rfl | trivial), .inr ⟨k, by omega, rfl, by rw [HA.out], HL.out.1, fun m hm hm2 => by
          by_cases hmi : m = i
          · rw [hmi, HB.out, HA.out]; omega
          · exact HL.out.2 m (by omega) hm2⟩⟩
        case measure => simp [Lib.intOf]; omega

end Go.Proofs.Ytikkmdbaekdolaa

/- the reference's way as an object. -/
namespace Go.Proofs.Ytikkmdbaekdolaa
open Go.RowKit Go.Lib
set_option linter.unusedVariables false
set_option maxRecDepth 100000

/-- a way of the reference: its fates, how many were put, its items in a row of its own -/
structure RefAt (w : World) (ms : Nat → Prop) (P : Nat) (xf : Option Addr) (cf : Nat) (fl : List FateP) (n : Int) (v : Value) (l : List Itm) : Prop where
  row : RowIs w P 60 #[.slice xf fl.length cf, v, .int .i64 n]
  mine : ms P
  msl : MsL w ms
  fates : FRow w xf fl
  fatesF : ∀ g o, fl ≠ [] → xf = some ⟨g, o, none⟩ → g < w.heap.size ∧ ¬ ms g
  own : w.ownsRow 0 127 2 v l.length (flatI l)
  vms : ∀ g, v.ownBlock = some g → ms g ∧ g ≠ P
  its : ∀ d ∈ l, W64 d.at_ ∧ BodyF w ms d.v d.bs ∧ d.v.oneCell' = true
/-- a way that a step of others leaves alone -/
theorem RefAt.chg {w w' : World} {ms ms0 ms' : Nat → Prop} {P : Nat} {xf : Option Addr} {cf : Nat} {fl : List FateP} {n : Int} {v : Value} {l : List Itm} (h : RefAt w ms P xf cf fl n v l) (k : Chg ms0 w w')
    (hP : ¬ ms0 P) (hv : ∀ g, v.ownBlock = some g → ¬ ms0 g) (h0 : ∀ i, i < w.heap.size → ms0 i → ms i) (h1 : ∀ i, i < w.heap.size → ms' i → ms i) (h2 : ∀ i, ms i → ms' i) (h3 : MsL w' ms') : RefAt w' ms' P xf cf fl n v l where
  row := k.row h.row hP
  mine := h2 _ h.mine
  msl := h3
  fates := h.fates.chg k (fun g o hne e hm => by
    rcases h.fates with he | ⟨g', o', e', hl, _⟩
    · exact hne he
    · rw [e] at e'
      cases e'
      exact (h.fatesF g o hne e).2 (h0 g hl hm))
  fatesF := fun g o hne e => ⟨Nat.lt_of_lt_of_le (h.fatesF g o hne e).1 k.size, fun hm => (h.fatesF g o hne e).2 (h1 g (h.fatesF g o hne e).1 hm)⟩
  own := k.own h.own hv
  vms := fun g e => ⟨h2 _ (h.vms g e).1, (h.vms g e).2⟩
  its := fun d hd => ⟨(h.its d hd).1, (h.its d hd).2.1.chg k h0 h1, (h.its d hd).2.2⟩

theorem RefAt.count {w w' : World} {ms : Nat → Prop} {P : Nat} {xf : Option Addr} {cf : Nat} {fl : List FateP} {n n' : Int} {v : Value} {l : List Itm} (h : RefAt w ms P xf cf fl n v l) (k : Chg (fun i => i = P) w w') (hr : RowIs w' P 60 #[.slice xf fl.length cf, v, .int .i64 n']) : RefAt w' ms P xf cf fl n' v l where
  row := hr
  mine := h.mine
  msl := fun g hg => Nat.lt_of_lt_of_le (h.msl g hg) k.size
  fates := h.fates.chg k (fun g o hne e hm => (h.fatesF g o hne e).2 (by rw [hm]; exact h.mine))
  fatesF := fun g o hne e => ⟨Nat.lt_of_lt_of_le (h.fatesF g o hne e).1 k.size, (h.fatesF g o hne e).2⟩
  own := k.own h.own (fun g e => (h.vms g e).2)
  vms := h.vms
  its := fun d hd => ⟨(h.its d hd).1, (h.its d hd).2.1.chg k (fun i _ e => by rw [e]; exact h.mine) (fun _ _ h => h), (h.its d hd).2.2⟩
theorem RefAt.same {w w' : World} {ms : Nat → Prop} {P : Nat} {xf : Option Addr} {cf : Nat} {fl : List FateP} {n : Int} {v : Value} {l : List Itm} (h : RefAt w ms P xf cf fl n v l) (k : Chg (fun _ => False) w w') : RefAt w' ms P xf cf fl n v l :=
  h.chg k (fun h => h) (fun _ _ h => h) (fun _ _ h => h.elim) (fun _ _ h => h) (fun _ h => h) (fun g hg => Nat.lt_of_lt_of_le (h.msl g hg) k.size)
theorem itOfOwnR {w : World} {B n : Nat} {v : Value} {l : List Itm} (hn : l.length = n) (h : w.ownsRow B 127 2 v n (flatI l)) : ∃ x c, v = .slice x n c ∧ IRow w x l := by
  obtain ⟨hlen, ⟨rfl, h2⟩ | ⟨g, c, cur, rfl, hg, hheap, hc, hm, hcs, htake⟩⟩ := h
  · subst h2
    exact ⟨none, 0, rfl, .inl (List.eq_nil_of_length_eq_zero hn)⟩
  · refine ⟨_, c, rfl, .inr ⟨g, 0, rfl, (Array.getElem?_eq_some_iff.1 hheap).1, fun i hi => ?_⟩⟩
    obtain ⟨e1, e2⟩ := flatI_at l i hi
    rw [← htake, List.getElem?_take, if_pos (by omega)] at e1 e2
    exact ⟨by rw [cell_of_row w g _ cur _ _ hheap, Nat.zero_add]; simpa using e1, by rw [cell_of_row w g _ cur _ _ hheap, Nat.zero_add]; simpa using e2⟩

end Go.Proofs.Ytikkmdbaekdolaa

/- append of a slice that may be nil, as one operation of a region; the reference's Fork. -/
namespace Go.Proofs.Ytikkmdbaekdolaa
open Go.RowKit Go.Lib
set_option linter.unusedVariables false
set_option maxRecDepth 100000

theorem wp_append_any {P : Program} {o : Oper} {a : Act} {w : World} {K : Act → World → Prop} {Q : Exit → Act → World → Prop} (s x : Operand) (t : TypeId)
    (ho : o.op = .call { callee := .builtin .append, args := #[s, x], argTypes := #[t, t] })
    (base : Nat) (e : TypeId) (i : TypeInfo) (z : Value) (size bytes : Nat) (ht : P.underlying t = some (.slice e)) (hi : P.info? e = some i) (hz : i.zero = some z)
    (hsize : i.size = size) (hby : i.bytes = bytes) (hzs : z.cells.size = size) (hsz : 0 < size)
    (v : Value) (n : Nat) (xs : List Value) (hs : a.eval s = v) (hown : w.ownsRow base e size v n xs)
    (ad : Option Addr) (m c : Nat) (news : List Value) (hx : a.eval x = .slice ad m c) (hl : news.length = m * size) (hnews : (ad = none ∧ m = 0) ∨ ∃ a, ad = some a ∧ ∀ j u, news[j]? = some u → w.cell? (a.add j) = some u) (h1 : ∀ u ∈ news, u.oneCell' = true)
    (h63 : n + m ≤ maxLen) (hbytes : (n + m) * bytes ≤ 140737488355328) (hbase : base ≤ w.heap.size)
    (h : ∀ v' w', w'.ownsRow base e size v' (n + m) (xs ++ news) → w.grownBy w' v.ownBlock → (v'.ownBlock = v.ownBlock ∨ v'.ownBlock = some w.heap.size) → K (a.put o.dst v') w') : o.wp P a w K Q := by
  obtain ⟨v', w', hr, h2, h3, h4⟩ := run_append_any (P := P) w base t o.type e i z size bytes ht hi hz hsize hby hzs hsz v n xs hown ad m c news hl hnews h1 h63 hbytes hbase
  unfold Oper.wp execOp
  simp only [ho, resolve, invoke, builtin, Sem.run_bind, Sem.run_pure, Result.andThen_ok, List.map_toArray, List.map_cons, List.map_nil, hs, hx, hr]
  exact h v' w' h2 h3 h4

set_option maxHeartbeats 16000000 in
theorem rFork (ms : Nat → Prop) (P : Nat) (xf : Option Addr) (cf : Nat) (fl : List FateP) (n : Int) (v : Value) (l : List Itm) (hx : xf = none → fl = []) (hl : l.length ≤ 1000) (hb : fl.length * 16 ≤ 140737488355328) (w : World) (hA : RefAt w ms P xf cf fl n v l) :
    Calls Try.prog 32 #[.pointer (some ⟨P, 0, none⟩)] w fun e w' => ∃ Q xq cq v' ms', e = .returned (.pointer (some ⟨Q, 0, none⟩)) ∧ Below w.heap.size w w' ∧ w.heap.size ≤ Q ∧ (∀ g, v'.ownBlock = some g → w.heap.size ≤ g) ∧ (∀ g, ms g → ms' g) ∧ (∀ g, ms' g → ms g ∨ w.heap.size ≤ g) ∧ RefAt w' ms' Q xq cq fl n v' l := by
  obtain ⟨i1, hi1, hzz1, hs1, hbb1⟩ := info_parts (P := Try.prog) (e := 119) (z := (.agg #[.bool false, .bool false, .bool false, .int .u64 0])) (size := 4) (bytes := 16) (by kernel_rfl)
  obtain ⟨i2, hi2, hzz2, hs2, hbb2⟩ := info_parts (P := Try.prog) (e := 127) (z := (.agg #[.int .u64 0, .slice none 0 0])) (size := 2) (bytes := 32) (by kernel_rfl)
  have HA := Lib.hid hA
  obtain ⟨xv, cv, rfl, hI⟩ := itOfOwnR rfl hA.own
  have hR := hA.row
  obtain ⟨nf, hnf⟩ : ∃ k, fl.length = k := ⟨_, rfl⟩
  have HNF := Lib.hid hnf
  obtain ⟨N, hN⟩ : ∃ k, l.length = k := ⟨_, rfl⟩
  have HN := Lib.hid hN
  have KD : Chg (fun _ => False) w w.drew := (Chg.refl (fun _ => False) w).drew'
  have HFD := Lib.hid (hA.fates.chg KD (fun _ _ _ _ h => h))
  have HOD := Lib.hid (KD.own hA.own (fun _ _ h => h))
  have HONE : Hid (∀ u ∈ flatI l, u.oneCell' = true) := fun u hu => by
    obtain ⟨d, hd, hu⟩ := List.mem_flatMap.1 hu
    simp only [List.mem_cons, List.not_mem_nil, or_false] at hu
    rcases hu with rfl | rfl
    · rfl
    · exact (hA.its d hd).2.2
  have HX0 := Lib.hid hx
  rw [hnf] at hb
  rw [hN] at hl HOD
  rw [hnf, hN] at hR
  clear hA hI hx hnf hN KD
  go_enter Try.func32, Try.ntmps32
  go_wp2_with fail
  have rD : RowIs w.drew P 60 #[.slice xf nf cf, .slice xv N cv, .int .i64 n] := ((Chg.refl (fun _ => False) w).drew').row hR (fun h => h)
  refine wp_region_held_drew (S := fun W => RowIs W P 60 #[.slice xf nf cf, .slice xv N cv, .int .i64 n]) (by kernel_rfl) rD (fun hHeld => ?_)
  have sX : w.heap.size ≤ w.drew.heap.size := Nat.le_refl _
  have KX : Chg (fun _ => False) w w.drew := (Chg.refl (fun _ => False) w).drew'
  generalize w.drew = X at *
  refine wpAnyH_take (i := 0) (oi := _) (v := (.pointer (some ⟨P, 0, none⟩))) rfl (by kernel_rfl) (by kernel_rfl) (by kernel_rfl) (fun _ _ _ h => h) (Or.inl ⟨by rfl, fun w hS => by go_simp⟩) (by assumption) ?_
  simp [Act.put]
  refine wpAnyH_take (i := 1) (oi := _) (v := (.pointer (some ⟨P, 0, none⟩))) rfl (by kernel_rfl) (by kernel_rfl) (by kernel_rfl) (fun _ _ _ h => h) (Or.inl ⟨by rfl, fun w hS => by go_simp⟩) (by assumption) ?_
  simp [Act.put]
  refine wpAnyH_take (i := 2) (oi := _) (v := (.pointer (some ⟨P, 0, none⟩))) rfl (by kernel_rfl) (by kernel_rfl) (by kernel_rfl) (fun _ _ _ h => h) (Or.inl ⟨by rfl, fun w hS => by go_simp⟩) (by assumption) ?_
  simp [Act.put]
  refine wpAnyH_take (i := 3) (oi := _) (v := (.slice xf nf cf)) rfl (by kernel_rfl) (by kernel_rfl) (by kernel_rfl) (fun _ _ _ h => h) (Or.inl ⟨by rfl, fun w hS => by have hc0 := RowIs.cell hS 0; have hc1 := RowIs.cell hS 1; have hc2 := RowIs.cell hS 2; have hlt := RowIs.lt hS; simp at hc0 hc1 hc2; go_simp⟩) (by assumption) ?_
  simp [Act.put]
  refine wpAnyH_take (i := 5) (oi := _) (v := (.pointer (some ⟨P, 0, none⟩))) rfl (by kernel_rfl) (by kernel_rfl) (by kernel_rfl) (fun _ _ _ h => h) (Or.inl ⟨by rfl, fun w hS => by go_simp⟩) (by assumption) ?_
  simp [Act.put]
  refine wpAnyH_take (i := 6) (oi := _) (v := (.pointer (some ⟨P, 0, none⟩))) rfl (by kernel_rfl) (by kernel_rfl) (by kernel_rfl) (fun _ _ _ h => h) (Or.inl ⟨by rfl, fun w hS => by go_simp⟩) (by assumption) ?_
  simp [Act.put]
  refine wpAnyH_take (i := 7) (oi := _) (v := (.pointer (some ⟨P, 1, none⟩))) rfl (by kernel_rfl) (by kernel_rfl) (by kernel_rfl) (fun _ _ _ h => h) (Or.inl ⟨by rfl, fun w hS => by go_simp⟩) (by assumption) ?_
  simp [Act.put]
  refine wpAnyH_take (i := 8) (oi := _) (v := (.slice xv N cv)) rfl (by kernel_rfl) (by kernel_rfl) (by kernel_rfl) (fun _ _ _ h => h) (Or.inl ⟨by rfl, fun w hS => by have hc0 := RowIs.cell hS 0; have hc1 := RowIs.cell hS 1; have hc2 := RowIs.cell hS 2; have hlt := RowIs.lt hS; simp at hc0 hc1 hc2; go_simp⟩) (by assumption) ?_
  simp [Act.put]
  refine wpAnyH_take (i := 10) (oi := _) (v := (.pointer (some ⟨P, 0, none⟩))) rfl (by kernel_rfl) (by kernel_rfl) (by kernel_rfl) (fun _ _ _ h => h) (Or.inl ⟨by rfl, fun w hS => by go_simp⟩) (by assumption) ?_
  simp [Act.put]
  refine wpAnyH_take (i := 11) (oi := _) (v := (.pointer (some ⟨P, 0, none⟩))) rfl (by kernel_rfl) (by kernel_rfl) (by kernel_rfl) (fun _ _ _ h => h) (Or.inl ⟨by rfl, fun w hS => by go_simp⟩) (by assumption) ?_
  simp [Act.put]
  refine wpAnyH_take (i := 12) (oi := _) (v := (.pointer (some ⟨P, 2, none⟩))) rfl (by kernel_rfl) (by kernel_rfl) (by kernel_rfl) (fun _ _ _ h => h) (Or.inl ⟨by rfl, fun w hS => by go_simp⟩) (by assumption) ?_
  simp [Act.put]
  refine wpAnyH_take (i := 13) (oi := _) (v := (.int .i64 n)) rfl (by kernel_rfl) (by kernel_rfl) (by kernel_rfl) (fun _ _ _ h => h) (Or.inl ⟨by rfl, fun w hS => by have hc0 := RowIs.cell hS 0; have hc1 := RowIs.cell hS 1; have hc2 := RowIs.cell hS 2; have hlt := RowIs.lt hS; simp at hc0 hc1 hc2; go_simp⟩) (by assumption) ?_
  simp [Act.put]
  refine wpAnyH_ready (rs := [4]) (by kernel_rfl) (by simp) ?_
  refine AllReadyH.cons (o := _) rfl (fun K hK => ?_) AllReadyH.nil
  rw [if_pos (by rfl)]
  refine wp_append_any (.const (.slice none 0 0)) (.tmp 6) 53 rfl w.heap.size 119 i1 (.agg #[.bool false, .bool false, .bool false, .int .u64 0]) 4 16 Try.underlying53 hi1 hzz1 hs1 hbb1 rfl (by decide) (.slice none 0 0) 0 [] rfl (World.ownsRow_nil _ _ _ _) xf nf cf (flatFa fl) rfl (by rw [flatFa_len, HNF.out]) (HNF.out ▸ FRow.news HX0.out HFD.out) (flatFa_one _) (by simp [maxLen]; omega) (by omega) sX ?_
  intro v7 w7 own7 hgrow7 hat7
  simp only [Nat.zero_add, List.nil_append] at own7
  obtain ⟨yf, df, rfl, hfr, hfx, hfb⟩ := fateOfOwn HNF.out own7
  have K7 : Chg (fun _ => False) X w7 := (Chg.ofGrown hgrow7).mono (fun i _ e => by cases e)
  have r7 := K7.row rD (fun h => h)
  simp [Act.put]
  refine hK.out _ _ r7 (fun hHeld2 => ?_)
  clear hK K
  refine wpAnyH_ready (rs := [9]) (by kernel_rfl) (by simp) ?_
  refine AllReadyH.cons (o := _) rfl (fun K hK => ?_) AllReadyH.nil
  rw [if_pos (by rfl)]
  refine wp_append_any (.const (.slice none 0 0)) (.tmp 11) 58 rfl w.heap.size 127 i2 (.agg #[.int .u64 0, .slice none 0 0]) 2 32 Try.underlying58 hi2 hzz2 hs2 hbb2 rfl (by decide) (.slice none 0 0) 0 [] rfl (World.ownsRow_nil _ _ _ _) xv N cv (flatI l) rfl (by rw [flatI_len, HN.out]) (ownSrc (K7.own HOD.out (fun _ _ h => h))) HONE.out (by simp [maxLen]; omega) (by omega) (Nat.le_trans sX K7.size) ?_
  intro v8 w8 own8 hgrow8 hat8
  simp only [Nat.zero_add, List.nil_append] at own8
  obtain ⟨x8, c8, rfl⟩ := own_slice own8
  have K8 : Chg (fun _ => False) w7 w8 := (Chg.ofGrown hgrow8).mono (fun i _ e => by cases e)
  have r8 := K8.row r7 (fun h => h)
  simp [Act.put]
  refine hK.out _ _ r8 (fun hHeld3 => ?_)
  clear hK K
  refine wpAnyH_take (i := 14) (oi := _) (v := (.agg #[.slice yf nf df, .slice x8 N c8, .int .i64 n])) rfl (by kernel_rfl) (by kernel_rfl) (by kernel_rfl) (fun _ _ _ h => h) (Or.inl ⟨by rfl, fun w hS => by go_simp⟩) (by assumption) ?_
  simp [Act.put]
  refine wpAnyH_ready (rs := [15]) (by kernel_rfl) (by simp) ?_
  refine AllReadyH.cons (o := _) rfl (fun K hK => ?_) AllReadyH.nil
  go_simp
  obtain ⟨w9, hw9⟩ : ∃ w9, w9 = w8.alloc (.cells #[.slice yf nf df, .slice x8 N c8, .int .i64 n] 60 (0, 0)) := ⟨_, rfl⟩
  try rw [← hw9]
  have K9 : Chg (fun _ => False) w8 w9 := by rw [hw9]; exact Chg.alloc _ _
  have r9 := K9.row r8 (fun h => h)
  refine hK.out _ _ r9 (fun hHeld4 => ?_)
  clear hK K
  refine wpAnyH_take (i := 16) (oi := _) (v := (.pointer (some ⟨w8.heap.size, 0, none⟩))) rfl (by kernel_rfl) (by kernel_rfl) (by kernel_rfl) (fun _ _ _ h => h) (Or.inl ⟨by rfl, fun w hS => by go_simp⟩) (by assumption) ?_
  simp [Act.put]
  refine wpAnyH_done (by kernel_rfl) ?_ _
  go_wp2_with fail
  go_ret
  have KT8 : Chg (fun _ => False) w w8 := (KX.trans K7 (fun _ h => h.elim)).trans K8 (fun _ h => h.elim)
  have KT : Chg (fun _ => False) w w9 := KT8.trans K9 (fun _ h => h.elim)
  have s7 := K7.size
  have s8 := K8.size
  have s98 : w8.heap.size < w9.heap.size := by rw [hw9]; simp
  have hv8 : ∀ g, (Value.slice x8 N c8).ownBlock = some g → g = w7.heap.size ∧ g < w8.heap.size := fun g e => by
    have hl8 := (own8.lt g e).2
    rcases hat8 with h | h
    · rw [h] at e; cases e
    · rw [h] at e
      simp at e
      exact ⟨e.symm, hl8⟩
  have hms := HA.out.msl
  have key : RefAt w9 (fun g => (ms g ∨ g = w8.heap.size) ∨ (Value.slice x8 N c8).ownBlock = some g) w8.heap.size yf df fl n (Value.slice x8 N c8) l := {
    row := by rw [HNF.out, hw9]; exact RowIs.mk (heap_alloc_new w8 _)
    mine := .inl (.inr rfl)
    msl := fun g h => by
      rcases h with (h | h) | h
      · exact Nat.lt_of_lt_of_le (hms g h) KT.size
      · omega
      · have := (hv8 g h).2; omega
    fates := (hfr.chg K8 (fun _ _ _ _ h => h)).chg K9 (fun _ _ _ _ h => h)
    fatesF := fun g o _ e => by
      obtain ⟨h1, h2⟩ := hfb g o e
      refine ⟨by omega, fun h => ?_⟩
      rcases h with (h | h) | h
      · have := hms g h; omega
      · omega
      · have := (hv8 g h).1; omega
    own := by rw [HN.out]; exact own_base (K9.own own8 (fun _ _ h => h)) (Nat.zero_le _)
    vms := fun g e => ⟨.inr e, fun h => by have := (hv8 g e).2; omega⟩
    its := fun d hd => ⟨(HA.out.its d hd).1, (HA.out.its d hd).2.1.chg KT (fun _ _ h => h.elim) (fun i hi h => by
      rcases h with (h | h) | h
      · exact h
      · have := KT8.size; omega
      · have := (hv8 i h).1; have := sX; omega), (HA.out.its d hd).2.2⟩ }
  exact ⟨w8.heap.size, yf, df, (Value.slice x8 N c8), _, rfl, KT.below (Nat.le_refl _) (fun i h => h.elim), KT8.size, fun g e => by have := (hv8 g e).1; omega, fun g h => .inl (.inl h), fun g h => by
    rcases h with (h | h) | h
    · exact .inl h
    · right; have := KT8.size; omega
    · right; have := (hv8 g h).1; omega, key⟩

end Go.Proofs.Ytikkmdbaekdolaa

/- A REGION THAT DRAWS ITS ORDER, and whose last operation may break what holds of the world till then (a store into a cell that the region has read). -/
namespace Go.Proofs.Ytikkmdbaekdolaa
open Go.RowKit
set_option linter.unusedVariables false
set_option maxRecDepth 100000

section
variable {P : Program} {ops : Array Oper} {Q : Exit → Act → World → Prop} {S : World → Prop} {L : Nat}

/-- Some order is drawn from here on; behind each operation but number L, S holds. -/
def TillLast (P : Program) (ops : Array Oper) (Q : Exit → Act → World → Prop) (S : World → Prop) (L : Nat) : Nat → Array Bool → Act → World → Prop
  | 0, d, a, w => Region.ready .any ops d = [] ∧ Q .normal a w
  | n + 1, d, a, w => (Region.ready .any ops d = [] → Q .normal a w) ∧ ∀ j ∈ Region.ready .any ops d, wpOp P ops Q j (fun b v => (j ≠ L → S v) ∧ TillLast P ops Q S L n (d.setIfInBounds j true) b v) a w

/-- number k waits for number x -/
def waitB (ops : Array Oper) (k x : Nat) : Bool := match ops[k]? with
  | none => false
  | some o => o.after.any (fun e => Region.binds .any e && e.on == x)
/-- those that wait for number i, directly or not -/
def heldUp (ops : Array Oper) (d : Array Bool) (i : Nat) : List Nat := (List.range ops.size).foldl (fun B k => if !(d.getD k true) && B.any (waitB ops k) then k :: B else B) [i]
def lastWaits (ops : Array Oper) (d : Array Bool) (i L : Nat) : Bool := (heldUp ops d i).contains L && (heldUp ops d i).all (fun k => k == i || (!(d.getD k true) && (heldUp ops d i).any (waitB ops k)))

theorem TillLast.any : ∀ (n : Nat) (d : Array Bool) (a : Act) (w : World), TillLast P ops Q S L n d a w → wpAny P .any ops Q n d a w
  | 0, _, _, _, h => h
  | n + 1, _, _, _, h => ⟨h.1, fun j hj => wpOp_mono (fun b v k => TillLast.any n _ b v k.2) (h.2 j hj)⟩

theorem TillLast.begin {id : Nat} {a : Act} {w : World} (L : Nat) (hm : P.follows .mixedOrders = true) (h : TillLast P ops Q S L ops.size (Array.replicate ops.size false) a w.drew) : (Code.region id ops true).wp P Q a w :=
  wp_region_any hm (TillLast.any _ _ _ _ h)

theorem TillLast.done {d : Array Bool} {a : Act} {w : World} (hr : Region.ready .any ops d = []) (h : Q .normal a w) : ∀ n, TillLast P ops Q S L n d a w
  | 0 => ⟨hr, h⟩
  | n + 1 => ⟨fun _ => h, fun j hj => by rw [hr] at hj; cases hj⟩

theorem waitB_not {k x : Nat} {d : Array Bool} (h : waitB ops k x = true) (hx : d.getD x false = false) : k ∉ Region.ready .any ops d := by
  intro hk
  obtain ⟨_, o, ho, hall⟩ := mem_ready.1 hk
  unfold waitB at h
  rw [ho] at h
  simp only [Array.any_eq_true', Bool.and_eq_true, beq_iff_eq] at h
  obtain ⟨e, he, hb, hx'⟩ := h
  have := hall e he hb
  rw [hx', hx] at this
  cases this

theorem TillLast.take {i : Nat} {oi : Oper} {v : Value} {n : Nat} {d : Array Bool} {a : Act} {w : World} (hi : ops[i]? = some oi) (hs : Region.noSelect ops = true) (hf : Region.free .any ops d i = true) (hr : (Region.ready .any ops d).contains i = true) (hl : lastWaits ops d i L = true)
    (hQ : ∀ c a w, Q (.panic c) (a.put oi.dst v) w → Q (.panic c) a w) (hy : YieldsIf P ops S oi v a) (hS : S w) (h : TillLast P ops Q S L n (d.setIfInBounds i true) (a.put oi.dst v) w) : TillLast P ops Q S L (n + 1) d a w := by
  have hsel := Region.noSelect_spec hs
  obtain ⟨B, hB⟩ : ∃ B, heldUp ops d i = B := ⟨_, rfl⟩
  unfold lastWaits at hl
  rw [hB] at hl
  simp only [Bool.and_eq_true, List.contains_iff_mem, List.all_eq_true, Bool.or_eq_true, beq_iff_eq, Bool.not_eq_true', List.any_eq_true] at hl
  obtain ⟨hLB, hall⟩ := hl
  have hwait : ∀ k ∈ B, k ≠ i → ∃ x ∈ B, waitB ops k x = true := fun k hk hne => ((hall k hk).resolve_left hne).2
  have key : ∀ (n : Nat) (d : Array Bool) (a : Act) (w : World), (∀ j oj, ops[j]? = some oj → j ≠ i → d.getD j true = false → (∀ e ∈ oj.after, Region.binds .any e = true → e.on ≠ i) → oi.apart ops oj = true) → i ∈ Region.ready .any ops d → (∀ k ∈ B, d.getD k false = false) → YieldsIf P ops S oi v a → S w → TillLast P ops Q S L n (d.setIfInBounds i true) (a.put oi.dst v) w → TillLast P ops Q S L (n + 1) d a w := by
    intro n
    induction n with
    | zero =>
      intro d a w hf hr hd hy hS H
      refine ⟨fun e => absurd (e ▸ hr) (List.not_mem_nil), fun j hj => ?_⟩
      have e : j = i := Classical.byContradiction fun hne => absurd (H.1 ▸ ready_mono (i := i) hj hne) List.not_mem_nil
      rw [e]
      exact hy.wpOp hi hS ⟨fun _ => hS, H⟩
    | succ n ih =>
      intro d a w hf hr hdB hy hS H
      refine ⟨fun e => absurd (e ▸ hr) (List.not_mem_nil), fun j hj => ?_⟩
      rcases Classical.em (j = i) with rfl | hne
      · exact hy.wpOp hi hS ⟨fun _ => hS, H⟩
      · obtain ⟨hd, oj, hoj, hw⟩ := mem_ready.1 hj
        have hjB : j ∉ B := fun hjB => by
          obtain ⟨x, hx, hwx⟩ := hwait j hjB hne
          exact waitB_not hwx (hdB x hx) hj
        have hiB : d.getD i false = false := by
          by_cases hiB : i ∈ B
          · exact hdB i hiB
          · have := (mem_ready.1 hr).1
            by_cases hlt : i < d.size
            · simp [hlt] at this ⊢; exact this
            · simp [Array.getElem?_eq_none (Nat.le_of_not_lt hlt)]
        have far : ∀ e ∈ oj.after, Region.binds .any e = true → e.on ≠ i := fun e he hb ee => by
          have t := hw e he hb
          rw [ee, hiB] at t
          cases t
        have step := wpOp_putIf hoj (hf j oj hoj hne hd far) (fun cs b => hsel i oi cs b hi) (fun cs b => hsel j oj cs b hoj) hQ hy (H.2 j (ready_mono hj hne))
        refine wpOp_mono (fun b v' k => ?_) step
        obtain ⟨ky, kS, kT⟩ := k
        have kS' : S v' := kS (fun e => hjB (e ▸ hLB))
        refine ⟨fun _ => kS', ih _ b v' (fun k ok hok hki hun hno => ?_) (ready_mono hr (Ne.symm hne)) (fun k hk => ?_) ky kS' (by rw [Array.setIfInBounds_comm _ _ hne]; exact kT)⟩
        · by_cases hjk : j = k
          · subst hjk
            exact hf j ok hok hki hd hno
          · rw [getD_set_ne true hjk] at hun
            exact hf k ok hok hki hun hno
        · rw [getD_set_ne false (fun e => hjB (by rw [e]; exact hk))]
          exact hdB k hk
  have hr' : i ∈ Region.ready .any ops d := by simpa using hr
  refine key n d a w (Region.free_spec hi hf) hr' (fun k hk => ?_) hy hS h
  have hb : ∀ k, d.getD k true = false → d.getD k false = false := fun k h => by
    by_cases hlt : k < d.size
    · simp [hlt] at h ⊢; exact h
    · simp [Array.getElem?_eq_none (Nat.le_of_not_lt hlt)]
  by_cases hki : k = i
  · rw [hki]; exact hb i (mem_ready.1 hr').1
  · exact hb k ((hall k hk).resolve_left hki).1

/-- the one operation that may come up is carried out -/
theorem TillLast.step {i : Nat} {o : Oper} {n : Nat} {d : Array Bool} {a : Act} {w : World} (hr : Region.ready .any ops d = [i]) (ho : ops[i]? = some o)
    (h : ∀ K' : Act → World → Prop, Shut (∀ a w, (i ≠ L → S w) → TillLast P ops Q S L n (d.setIfInBounds i true) a w → K' a w) → if Region.wanted o (yielded ops a.tmps) = true then Oper.wp P o a w K' Q else K' (a.put o.dst undef) w) : TillLast P ops Q S L (n + 1) d a w :=
  ⟨fun e => absurd (hr ▸ e) (List.cons_ne_nil _ _), fun j hj => by
    rw [hr] at hj
    have e := List.mem_singleton.1 hj
    subst e
    exact wpOp_step ho (fun K' hK => h K' (fun a w hS hW => hK a w ⟨hS, hW⟩))⟩
end

end Go.Proofs.Ytikkmdbaekdolaa

/- the reference's way behind an append to its row: the plain part. -/
namespace Go.Proofs.Ytikkmdbaekdolaa
open Go.RowKit Go.Lib
set_option linter.unusedVariables false
set_option maxRecDepth 100000

theorem rlay_done {w wT : World} {ms : Nat → Prop} {P : Nat} {xf : Option Addr} {cf : Nat} {fl : List FateP} {n : Int} {v v9 u : Value} {l : List Itm} {a : Int} {bs : List Int} (HA : RefAt w ms P xf cf fl n v l) (B : BodyF w ms u bs) (ha : W64 a) (hone : u.oneCell' = true)
    (C : Chg (fun i => i = P ∨ v.ownBlock = some i) w wT) (hrow : RowIs wT P 60 #[.slice xf fl.length cf, v9, .int .i64 n]) (hown : wT.ownsRow 0 127 2 v9 (l.length + 1) (flatI l ++ [.int .u64 a, u])) (hv9 : ∀ g, v9.ownBlock = some g → v.ownBlock = some g ∨ w.heap.size ≤ g) :
    RefAt wT (fun g => ms g ∨ v9.ownBlock = some g) P xf cf fl n v9 (l ++ [⟨a, u, bs⟩]) := by
  have hC : ∀ u bs, BodyF w ms u bs → BodyF wT (fun g => ms g ∨ v9.ownBlock = some g) u bs := fun u bs h => h.chg C (fun i _ e => e.elim (fun e => by rw [e]; exact HA.mine) (fun e => (HA.vms i e).1)) (fun i hi h => h.elim (fun h => h) (fun h => (hv9 i h).elim (fun h => (HA.vms i h).1) (fun h => absurd hi (Nat.not_lt.mpr h))))
  have hF : ∀ g, g < w.heap.size → ¬ ms g → ¬ (g = P ∨ v.ownBlock = some g) := fun g _ h e => h (e.elim (fun e => by rw [e]; exact HA.mine) (fun e => (HA.vms g e).1))
  refine { row := hrow, mine := .inl HA.mine, msl := ?_, fates := ?_, fatesF := ?_, own := ?_, vms := ?_, its := ?_ }
  · exact fun g h => h.elim (fun h => Nat.lt_of_lt_of_le (HA.msl g h) C.size) (fun h => (hown.lt g h).2)
  · exact HA.fates.chg C (fun g o hne e => hF g (HA.fatesF g o hne e).1 (HA.fatesF g o hne e).2)
  · intro g o hne e
    obtain ⟨h1, h2⟩ := HA.fatesF g o hne e
    exact ⟨Nat.lt_of_lt_of_le h1 C.size, fun h => h.elim h2 (fun h => (hv9 g h).elim (fun h => h2 (HA.vms g h).1) (fun h => absurd h1 (Nat.not_lt.mpr h)))⟩
  · rw [flatI_app, List.length_append]
    exact hown
  · intro g e
    exact ⟨.inr e, (hv9 g e).elim (fun h => (HA.vms g h).2) (fun h e => by have := HA.row.lt; omega)⟩
  · intro d hd
    rcases List.mem_append.1 hd with hd | hd
    · exact ⟨(HA.its d hd).1, hC _ _ (HA.its d hd).2.1, (HA.its d hd).2.2⟩
    · rw [List.mem_singleton.1 hd]
      exact ⟨ha, hC _ _ B, hone⟩
/-- one item, as it is appended -/
theorem one_news {w : World} {g : Nat} {t : TypeId} {a u : Value} (h : RowIs w g t #[a, u]) : ∀ (j : Nat) (y : Value), ([a, u] : List Value)[j]? = some y → w.cell? ((⟨g, 0, none⟩ : Addr).add j) = some y := fun j y hy => by
  rw [addr_add, RowIs.cell h, Nat.zero_add]
  simpa using hy
theorem rput_no {fl : List FateP} {n : Nat} {L : List (Int × List Int)} {now : Int} {bs : List Int} {f : FateP} (hf : fl.getD n zF = f) (hd : f.drop = false) (ht : f.twice = false) {x : List Int} (hx : (if f.mark = true then markF bs else bs) = x) : rputS fl n L now bs = L ++ [(addI now f.delay, x)] := by
  unfold rputS
  dsimp only
  rw [hf, hd, ht, hx]
  rfl
theorem rput_tw {fl : List FateP} {n : Nat} {L : List (Int × List Int)} {now : Int} {bs : List Int} {f : FateP} (hf : fl.getD n zF = f) (hd : f.drop = false) (ht : f.twice = true) {x : List Int} (hx : (if f.mark = true then markF bs else bs) = x) : rputS fl n L now bs = L ++ [(addI now f.delay, x)] ++ [(addI now f.delay, x)] := by
  unfold rputS
  dsimp only
  rw [hf, hd, ht, hx]
  rfl
theorem rput_drop {fl : List FateP} {n : Nat} {L : List (Int × List Int)} {now : Int} {bs : List Int} {f : FateP} (hf : fl.getD n zF = f) (hd : f.drop = true) : rputS fl n L now bs = L := by
  unfold rputS
  dsimp only
  rw [hf, hd]
  rfl

end Go.Proofs.Ytikkmdbaekdolaa

