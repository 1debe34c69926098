/- the reference's LastSpans; the laws' own Row, Part, Ack. -/
import Derived.Test.YtofggpmllfhgaaaAddSpan
import Derived.Test.YtofggpmllfhgaaaBits
import Derived.BigRegion
namespace Go.Proofs.Ytofggpmllfhgaaa
open Go.RowKit Go.Lib
set_option linter.unusedVariables false
set_option maxRecDepth 100000

set_option maxHeartbeats 4000000 in
theorem rLastSpans (v : Value) (l : List (Int × Int)) (hlen : l.length ≤ 100000) (w : World) (hR : RowV w v l) :
    Calls Try.prog 65 #[v, .int .i64 32] w fun e w' => ∃ v', e = .returned v' ∧ Below w.heap.size w w' ∧ w'.ownsRow w.heap.size 84 2 v' (lastS l).length (flatS (lastS l)) := by
  obtain ⟨i, hi, hzz, hs, hbb⟩ := info_parts (P := Try.prog) (e := 84) (z := .agg #[.int .u64 0, .int .u64 0]) (size := 2) (bytes := 16) (by kernel_rfl)
  rcases hR with ⟨rfl, rfl⟩ | ⟨g, o, c, rfl, hnc, hcm, hS⟩
  · go_enter Try.func65, Try.ntmps65
    go_wp2_with (at_builtin; refine wpList_append_none rfl (.const (.slice none 0 0)) (.tmp 18) 50 rfl w.heap.size 84 i 2 Try.underlying50 hi hs (.slice none 0 0) 0 [] rfl (World.ownsRow_nil _ _ _ _) (by rfl) ?_)
    go_ret
    exact ⟨_, rfl, Below.refl _ _, World.ownsRow_nil _ _ _ _⟩
  · have HS := Lib.hid hS
    clear hS
    by_cases h32 : l.length ≤ 32
    · have hl : lastS l = l := by unfold lastS; rw [show l.length - 32 = 0 by omega]; rfl
      rw [hl]
      obtain ⟨n, hn⟩ : ∃ n, l.length = n := ⟨_, rfl⟩
      have HN := Lib.hid hn
      rw [hn] at hlen hnc h32 ⊢
      clear hn hl
      have h1 : (n : Int) ≤ 32 := by omega
      have h2 : (0 : Int) ≤ (n : Int) := by omega
      go_enter Try.func65, Try.ntmps65
      go_wp2_with (at_builtin; refine wpList_append_own _ rfl (.const (.slice none 0 0)) (.tmp 18) 50 rfl w.heap.size 84 i (.agg #[.int .u64 0, .int .u64 0]) 2 16 Try.underlying50 hi hzz hs hbb rfl (by decide) (.slice none 0 0) 0 [] rfl (World.ownsRow_nil _ _ _ _) ⟨g, o, none⟩ _ _ (flatS l) (by rfl) (by rw [flatS_len, HN.out]) HS.out.news (flatS_one _) (by simp [maxLen]; omega) (by omega) (Nat.le_refl _) ?_; intro v6 w6 own6 hgrow6 hnil6; simp only [Nat.zero_add, List.nil_append] at own6)
      have b6 := below_grown (Below.refl _ _) hgrow6 (Nat.le_refl _)
      go_ret
      exact ⟨v6, rfl, b6, own6⟩
    · obtain ⟨K, hK⟩ : ∃ K, l.length = K + 32 := ⟨l.length - 32, by omega⟩
      have hl : lastS l = l.drop K := by unfold lastS; rw [show l.length - 32 = K by omega]
      have hdl : (l.drop K).length = 32 := by rw [List.length_drop]; omega
      rw [hl, hdl]
      have HDL := Lib.hid hdl
      have HK := Lib.hid hK
      obtain ⟨n, hn⟩ : ∃ n, l.length = n := ⟨_, rfl⟩
      rw [hn] at hlen hnc hK h32 ⊢
      clear hn hl hdl
      have hcK : ¬ c = K := by omega
      have h1 : ¬ (n : Int) ≤ 32 := by omega
      have hw : IntKind.i64.wrap ((n : Int) - 32) = (K : Int) := by rw [IntKind.wrap_i64]; omega
      have h3 : (0 : Int) ≤ (K : Int) := by omega
      have h4 : (K : Int) ≤ (n : Int) := by omega
      have HNK := Lib.hid (show n - K = 32 by omega)
      have HK2 := Lib.hid hK
      clear hK
      go_enter Try.func65, Try.ntmps65
      go_wp2_with (at_builtin; refine wpList_append_own _ rfl (.const (.slice none 0 0)) (.tmp 18) 50 rfl w.heap.size 84 i (.agg #[.int .u64 0, .int .u64 0]) 2 16 Try.underlying50 hi hzz hs hbb rfl (by decide) (.slice none 0 0) 0 [] rfl (World.ownsRow_nil _ _ _ _) ⟨g, o + K * 2, none⟩ (n - K) (c - K) (flatS (l.drop K)) rfl (by rw [flatS_len, HDL.out, HNK.out]) (HS.out.drop K).news (flatS_one _) (by simp [maxLen]; omega) (by omega) (Nat.le_refl _) ?_; intro v6 w6 own6 hgrow6 hnil6; simp only [Nat.zero_add, List.nil_append] at own6)
      have b6 := below_grown (Below.refl _ _) hgrow6 (Nat.le_refl _)
      go_ret
      rw [HNK.out] at own6
      exact ⟨v6, rfl, b6, own6⟩

/-- a row of small numbers -/
def U16Row (w : World) (a : Option Addr) (len : Nat) (z : Nat → Int) : Prop :=
  len = 0 ∨ ∃ b off, a = some ⟨b, off, none⟩ ∧ b < w.heap.size ∧ ∀ i, i < len → w.cell? ⟨b, off + i, none⟩ = some (.int .u16 (z i)) ∧ 0 ≤ z i ∧ z i ≤ 65535
theorem U16Row.below {w w' : World} {a : Option Addr} {len : Nat} {z : Nat → Int} (h : U16Row w a len z) (hb : Below w.heap.size w w') : U16Row w' a len z := by
  rcases h with h | ⟨b, off, h1, h2, h3⟩
  · exact .inl h
  · exact .inr ⟨b, off, h1, Nat.lt_of_lt_of_le h2 hb.size, fun i hi => by rw [hb.cell h2]; exact h3 i hi⟩
theorem U16Row.of {w : World} {a : Option Addr} {len cap : Nat} {zs : List Int} (h : IsRow .u16 w a len cap zs) : U16Row w a len (fun i => zs.getD i 0) ∧ len ≤ 9223372036854775807 := by
  rcases h.plain with rfl | ⟨h0, hm, b, off, rfl, hb, hcell, hwz⟩
  · exact ⟨.inl rfl, by omega⟩
  · unfold maxLen at hm
    exact ⟨.inr ⟨b, off, rfl, hb, fun i hi => ⟨hcell i hi, (wfU16 (hwz i hi)).1, (wfU16 (hwz i hi)).2⟩⟩, by omega⟩

set_option maxHeartbeats 8000000 in
theorem gRow (a : Option Addr) (len cap : Nat) (z : Nat → Int) (hl : len ≤ 9223372036854775807) (w : World) (hU : U16Row w a len z) :
    Calls Try.prog 59 #[.slice a len cap] w fun e w' => ∃ v r, e = .returned v ∧ Below w.heap.size w w' ∧ GoodL 0 r ∧ r.length ≤ 32 ∧ w'.ownsRow w.heap.size 84 2 v r.length (flatS r) := by
  have HU := Lib.hid hU
  clear hU
  have hlI : (len : Int) ≤ 9223372036854775807 := by omega
  go_enter Try.func59, Try.ntmps59
  go_wp2_with fail
  go_loopw [3, 4] (fun ov iv wr => ∃ (k : Nat) (ls : List (Int × Int)), iv = .int .i64 (k : Int) ∧ k ≤ 121 ∧ GoodL 0 ls ∧ ls.length ≤ k ∧ RowV wr ov ls ∧ Below w.heap.size w wr) (fun _ iv _ => (200 - intOf iv).toNat)
  case atStart => exact ⟨0, [], rfl, by omega, trivial, by simp, .inl ⟨rfl, rfl⟩, Below.refl _ _⟩
  case round =>
    obtain ⟨k, ls, rfl, hk, hgood, hll, hrow, bel⟩ := hrel
    have HG := Lib.hid hgood
    have HL := Lib.hid hll
    have HR := Lib.hid hrow
    have hk0 : (0 : Int) ≤ (k : Int) := by omega
    have sb := bel.size
    clear hgood hll hrow
    by_cases h1 : k + 1 < len
    · have h1' : (k : Int) + 1 < (len : Int) := by omega
      have h1d : decide ((k : Int) + 1 < (len : Int)) = true := decide_eq_true h1'
      by_cases h2 : k < 120
      · have h2' : (k : Int) < 120 := by omega
        have h2d : decide ((k : Int) < 120) = true := decide_eq_true h2'
        obtain ⟨b, off, rfl, hb, hc⟩ : ∃ b off, a = some ⟨b, off, none⟩ ∧ b < w.heap.size ∧ ∀ i, i < len → w.cell? ⟨b, off + i, none⟩ = some (.int .u16 (z i)) ∧ 0 ≤ z i ∧ z i ≤ 65535 := by
          rcases HU.out with h | h
          · omega
          · exact h
        obtain ⟨c0, zl, zh⟩ := hc k (by omega)
        obtain ⟨c1, yl, yh⟩ := hc (k + 1) h1
        have c0 : wr.cell? ⟨b, off + k, none⟩ = some (.int .u16 (z k)) := by rw [bel.cell hb]; exact c0
        have c1 : wr.cell? ⟨b, off + (k + 1), none⟩ = some (.int .u16 (z (k + 1))) := by rw [bel.cell hb]; exact c1
        obtain ⟨lo, hlo⟩ : ∃ n, n = (z k).tmod 200 := ⟨_, rfl⟩
        obtain ⟨d, hd⟩ : ∃ n, n = (z (k + 1)).tmod 6 := ⟨_, rfl⟩
        have q1 : 0 ≤ lo ∧ lo ≤ 199 := by rw [hlo, Int.tmod_eq_emod_of_nonneg zl]; omega
        have q2 : 0 ≤ d ∧ d ≤ 5 := by rw [hd, Int.tmod_eq_emod_of_nonneg yl]; omega
        have w1 : IntKind.u16.wrap ((z k).tmod 200) = lo := by rw [← hlo, IntKind.wrap_u16]; omega
        have w2 : IntKind.u16.wrap ((z (k + 1)).tmod 6) = d := by rw [← hd, IntKind.wrap_u16]; omega
        have w3 : IntKind.u64.wrap lo = lo := by rw [IntKind.wrap_u64]; omega
        have w4 : IntKind.u64.wrap d = d := by rw [IntKind.wrap_u64]; omega
        have w5 : IntKind.u64.wrap (lo + d) = lo + d := by rw [IntKind.wrap_u64]; omega
        have w6 : (z k).tmod 200 = lo := hlo.symm
        have w7 : (z (k + 1)).tmod 6 = d := hd.symm
        clear hlo hd hc
        go_wp2_with fail
        refine (rAddSpan u3 ls lo (lo + d) HG.out (by have := HL.out; omega) (by omega) (by omega) (by omega) _ HR.out).mono ?_; rintro e' w3 ⟨v3, rfl, b3, own3⟩
        have R3 := RowV.ofOwn own3
        go_wp2_with fail
        go_roundw
        case rel => exact ⟨k + 2, addS ls lo (lo + d), by congr 1, by omega, addS_good ls lo (lo + d) 0 HG.out (by omega) (by omega) (by omega), by have := (addS_len ls lo (lo + d)).2; have := HL.out; omega, R3, bel.trans (b3.mono sb)⟩
        case measure => simp only [intOf]; omega
      · have h2d : decide ((k : Int) < 120) = false := decide_eq_false (by omega)
        go_wp2_with fail
        refine (rLastSpans u3 ls (by have := HL.out; omega) _ HR.out).mono ?_; rintro e' w3 ⟨v3, rfl, b3, own3⟩
        have R3 := RowV.ofOwn own3
        go_wp2_with fail
        go_ret
        exact ⟨v3, lastS ls, rfl, bel.trans (b3.mono sb), lastS_good HG.out, (lastS_len ls).1, own_base own3 sb⟩
    · have h1d : decide ((k : Int) + 1 < (len : Int)) = false := decide_eq_false (by omega)
      go_wp2_with fail
      refine (rLastSpans u3 ls (by have := HL.out; omega) _ HR.out).mono ?_; rintro e' w3 ⟨v3, rfl, b3, own3⟩
      have R3 := RowV.ofOwn own3
      go_wp2_with fail
      go_ret
      exact ⟨v3, lastS ls, rfl, bel.trans (b3.mono sb), lastS_good HG.out, (lastS_len ls).1, own_base own3 sb⟩

set_option maxHeartbeats 8000000 in
theorem gPart (va vb : Value) (la lb : List (Int × Int)) (hga : GoodL 0 la) (hgb : GoodL 0 lb) (hla : la.length ≤ 32) (hlb : lb.length ≤ 32) (w : World) (hA : RowV w va la) (hB : RowV w vb lb) :
    Calls Try.prog 60 #[va, vb] w fun e w' => ∃ v r, e = .returned v ∧ Below w.heap.size w w' ∧ GoodL 0 r ∧ r.length ≤ 32 ∧ insideAll r lb ∧ w'.ownsRow w.heap.size 84 2 v r.length (flatS r) := by
  obtain ⟨gB, _, _⟩ := goodL_all lb 0 (by omega) hgb
  obtain ⟨xa, ca, rfl, SA⟩ := hA.form
  obtain ⟨xb, cb, rfl, SB⟩ := hB.form
  have GB := Lib.hid gB
  have HGA := Lib.hid (good_tail la 0 hga)
  have HGB := Lib.hid (good_tail lb 0 hgb)
  have HSA := Lib.hid SA
  have HSB := Lib.hid SB
  obtain ⟨na, hna⟩ : ∃ n, la.length = n := ⟨_, rfl⟩
  obtain ⟨nb, hnb⟩ : ∃ n, lb.length = n := ⟨_, rfl⟩
  have HNA := Lib.hid hna
  have HNB := Lib.hid hnb
  rw [hna] at hla ⊢
  rw [hnb] at hlb ⊢
  clear hA hB SA SB gB hga hgb hna hnb
  have hnaI : (na : Int) ≤ 32 := by omega
  have hnbI : (nb : Int) ≤ 32 := by omega
  go_enter Try.func60, Try.ntmps60
  go_wp2_with fail
  go_loopw [5, 6] (fun ov iv wr => ∃ (k : Nat) (ls : List (Int × Int)), iv = .int .i64 (k : Int) ∧ k ≤ na ∧ GoodL 0 ls ∧ ls.length ≤ k * 32 ∧ (∀ s ∈ ls, InR lb s.1 s.2) ∧ RowV wr ov ls ∧ Below w.heap.size w wr) (fun _ iv _ => (na - intOf iv).toNat)
  case atStart => exact ⟨0, [], rfl, by omega, trivial, by simp, fun s hs => absurd hs (by simp), .inl ⟨rfl, rfl⟩, Below.refl _ _⟩
  case round =>
    obtain ⟨k, ls, rfl, hk, hgood, hll, hin, hrow, bel⟩ := hrel
    have HG := Lib.hid hgood
    have HL := Lib.hid hll
    have HI := Lib.hid hin
    have HR := Lib.hid hrow
    have hk0 : (0 : Int) ≤ (k : Int) := by omega
    have sb := bel.size
    clear hgood hll hrow hin
    by_cases hlt : k < na
    · have hlt' : (k : Int) < (na : Int) := by omega
      obtain ⟨ga, oa, rfl, hga, c0, c1⟩ := HSA.out.at k (by rw [HNA.out]; exact hlt)
      obtain ⟨alo, ahi, hsa⟩ : ∃ lo hi, la.getD k (0, 0) = (lo, hi) := ⟨_, _, rfl⟩
      have hma : (alo, ahi) ∈ la := by
        rw [← hsa, List.getD_eq_getElem?_getD, List.getElem?_eq_getElem (by rw [HNA.out]; exact hlt)]
        exact List.getElem_mem _
      rw [hsa] at c0 c1
      obtain ⟨qa1, qa2, qa3⟩ := HGA.out _ hma
      simp only at qa1 qa2 qa3
      have C0 := Lib.hid c0
      have C1 := Lib.hid c1
      clear hsa hma c0 c1
      go_wp2_with fail
      go_loopw [5, 7] (fun ov iv wi => ∃ (j : Nat) (ms : List (Int × Int)), iv = .int .i64 (j : Int) ∧ j ≤ nb ∧ GoodL 0 ms ∧ ms.length ≤ k * 32 + j ∧ (∀ s ∈ ms, InR lb s.1 s.2) ∧ RowV wi ov ms ∧ Below w.heap.size w wi) (fun _ iv _ => (nb - intOf iv).toNat)
      case atStart => exact ⟨0, ls, rfl, by omega, HG.out, HL.out, HI.out, HR.out, bel⟩
      case round =>
        obtain ⟨j, ms, rfl, hj, hgood, hll, hin, hrow, bel2⟩ := hrel
        have HG2 := Lib.hid hgood
        have HL2 := Lib.hid hll
        have HI2 := Lib.hid hin
        have HR2 := Lib.hid hrow
        have hj0 : (0 : Int) ≤ (j : Int) := by omega
        have sb2 := bel2.size
        clear hgood hll hrow hin
        by_cases hjt : j < nb
        · have hjt' : (j : Int) < (nb : Int) := by omega
          obtain ⟨gb, ob, hxb, hgb, d0, d1⟩ := HSB.out.at j (by rw [HNB.out]; exact hjt)
          obtain ⟨blo, bhi, hsb⟩ : ∃ lo hi, lb.getD j (0, 0) = (lo, hi) := ⟨_, _, rfl⟩
          have hmb : (blo, bhi) ∈ lb := by
            rw [← hsb, List.getD_eq_getElem?_getD, List.getElem?_eq_getElem (by rw [HNB.out]; exact hjt)]
            exact List.getElem_mem _
          have HSJ := Lib.hid hsb
          rw [hsb] at d0 d1
          obtain ⟨qb1, qb2, qb3⟩ := HGB.out _ hmb
          simp only at qb1 qb2 qb3
          have e0 : wr.cell? ⟨ga, oa + k * 2, none⟩ = some (.int .u64 alo) := by rw [bel2.cell hga]; exact C0.out
          have e1 : wr.cell? ⟨ga, oa + k * 2 + 1, none⟩ = some (.int .u64 ahi) := by rw [bel2.cell hga]; exact C1.out
          have f0 : wr.cell? ⟨gb, ob + j * 2, none⟩ = some (.int .u64 blo) := by rw [bel2.cell hgb]; exact d0
          have f1 : wr.cell? ⟨gb, ob + j * 2 + 1, none⟩ = some (.int .u64 bhi) := by rw [bel2.cell hgb]; exact d1
          have HXB := Lib.hid hxb
          have hgb2 : gb < wr.heap.size := by omega
          have hga2 : ga < wr.heap.size := by omega
          rw [hxb]
          clear hsb hmb d0 d1 hxb
          go_wp2_with fail
          go_region
          obtain ⟨A, hA⟩ : ∃ A, A = max alo blo := ⟨_, rfl⟩
          obtain ⟨B, hB⟩ : ∃ B, B = min ahi bhi := ⟨_, rfl⟩
          rw [← hA, ← hB]
          have a1 : alo ≤ A ∧ blo ≤ A := by omega
          have a2 : B ≤ ahi ∧ B ≤ bhi := by omega
          clear hA hB
          obtain ⟨P, hP⟩ : ∃ P, P = wr.heap.size := ⟨_, rfl⟩
          obtain ⟨w4, hw4⟩ : ∃ w4, w4 = (wr.alloc (.cells #[.int .u64 A, .int .u64 B] 84 (0, 0))).drew := ⟨_, rfl⟩
          have X4 : BoxAt w4 P A B := by rw [hw4, hP]; exact heap_alloc_new wr _
          have b4 : Below wr.heap.size wr w4 := by rw [hw4]; exact ((Below.refl _ _).alloc (Nat.le_refl _) _).trans ((belDrew _).mono (by simp))
          rw [← hw4, ← hP]
          have b04 := bel2.trans (b4.mono sb2)
          have HR4 := Lib.hid (HR2.out.below b4)
          clear hw4 hP e0 e1 f0 f1 hgb2 hga2 b4
          obtain ⟨⟨p0, p1⟩, _⟩ := X4.cells
          by_cases hle : A ≤ B
          · have hdl : decide (A ≤ B) = true := decide_eq_true hle
            go_wp2_with fail
            refine (rAddSpan u5 ms A B HG2.out (by have := HL2.out; omega) (by omega) hle (by omega) _ HR4.out).mono ?_; rintro e' w5 ⟨v5, rfl, b5, own5⟩
            have R5 := RowV.ofOwn own5
            go_wp2_with fail
            go_roundw
            case rel => exact ⟨j + 1, addS ms A B, by congr 1, by omega, addS_good ms A B 0 HG2.out (by omega) hle (by omega), by have := (addS_len ms A B).2; have := HL2.out; omega, addS_in lb GB.out ms A B 0 HG2.out HI2.out ⟨j, by rw [HNB.out]; exact hjt, by rw [HSJ.out]; exact a1.2, by rw [HSJ.out]; exact a2.2⟩ hle, R5, b04.trans (b5.mono b04.size)⟩
            case measure => simp only [intOf]; omega
          · have hdl : decide (A ≤ B) = false := decide_eq_false hle
            go_wp2_with fail
            go_roundw
            case rel => exact ⟨j + 1, ms, by congr 1, by omega, HG2.out, by have := HL2.out; omega, HI2.out, HR4.out, b04⟩
            case measure => simp only [intOf]; omega
        · have hjn : j = nb := by omega
          subst hjn
          have hd : decide ((j : Int) < (j : Int)) = false := by simp
          go_wp2_with fail
          go_roundw
          case rel => exact ⟨k + 1, ms, by congr 1, by omega, HG2.out, by have := HL2.out; omega, HI2.out, HR2.out, bel2⟩
          case measure => simp only [intOf]; omega
    · have hkn : k = na := by omega
      subst hkn
      have hd : decide ((k : Int) < (k : Int)) = false := by simp
      go_wp2_with fail
      refine (rLastSpans u5 ls (by have := HL.out; omega) _ HR.out).mono ?_; rintro e' w3 ⟨v3, rfl, b3, own3⟩
      have R3 := RowV.ofOwn own3
      go_wp2_with fail
      go_ret
      exact ⟨v3, lastS ls, rfl, bel.trans (b3.mono sb), lastS_good HG.out, (lastS_len ls).1, insideAll_of (fun s hs => HI.out s (lastS_mem hs)), own_base own3 sb⟩

set_option maxHeartbeats 4000000 in
theorem gAck (a b : Option Addr) (la ca lb cb : Nat) (z y : Nat → Int) (hla : la ≤ 9223372036854775807) (hlb : lb ≤ 9223372036854775807) (t r : Int) (p : Bool) (ht : W64 t) (hr : W64 r) (w : World) (hA : U16Row w a la z) (hB : U16Row w b lb y) :
    Calls Try.prog 35 #[.slice a la ca, .slice b lb cb, .int .u64 t, .int .u64 r, .bool p] w fun e w' => ∃ (d : AckD) (v u : Value) (ok : Bool), e = .returned (.tuple #[ackV d v u, .bool ok]) ∧ Below w.heap.size w w' ∧ (ok = true → MayA d) ∧ d.spans.length ≤ 32 ∧ d.marked.length ≤ 32 ∧ RowV w' v d.spans ∧ RowV w' u d.marked := by
  have HT := Lib.hid ht
  have HR := Lib.hid hr
  have HA := Lib.hid hA
  have HB := Lib.hid hB
  clear ht hr hA hB
  go_enter Try.func35, Try.ntmps35
  go_wp2_with fail
  obtain ⟨w0, hw0⟩ : ∃ w0, w0 = w.alloc (.cells #[.slice none 0 0, .slice none 0 0, .int .u64 0, .int .u64 0, .bool false] 52 (0, 0)) := ⟨_, rfl⟩
  have b00 : Below w.heap.size w w0 := by rw [hw0]; exact (Below.refl _ _).alloc (Nat.le_refl _) _
  have D0 : AckAt w0 w.heap.size (.slice none 0 0) (.slice none 0 0) (.int .u64 0) (.int .u64 0) (.bool false) := by rw [hw0]; exact AckAt.alloc w _ _ _ _ _
  rw [← hw0]
  clear hw0
  refine (gRow a la ca z hla _ (HA.out.below b00)).mono ?_; rintro e' w1 ⟨v1, s, rfl, b1, gs, ls, own1⟩
  have R1 := RowV.ofOwn own1
  have hB0 := D0.lt
  have b01 := b00.trans (b1.mono b00.size)
  have D1 := D0.belowB D0.lt b1
  obtain ⟨x1, c1, hv1, _⟩ := R1.form
  subst hv1
  clear D0 b1 b00
  have OWN1 := Lib.hid own1
  have GS := Lib.hid gs
  obtain ⟨n, hn⟩ : ∃ n, s.length = n := ⟨_, rfl⟩
  have HN := Lib.hid hn
  obtain ⟨⟨d0, d1, d2, d3, d4⟩, fz⟩ := D1.cells
  have y0 := fz 0
  have y1 := fz 1
  have y2 := fz 2
  have y3 := fz 3
  have y4 := fz 4
  clear fz R1 gs own1
  by_cases h0 : n = 0
  · have hz : (s.length : Int) = 0 := by omega
    rw [hn]
    subst h0
    go_wp2_with fail
    refine bodyPost_ret (v := .tuple #[.agg #[.slice none 0 0, .slice none 0 0, .int .u64 0, .int .u64 0, .bool false], .bool false]) (by simp [results, Try.results35, go_sem, d0, d1, d2, d3, d4]) rfl ⟨zeroA, .slice none 0 0, .slice none 0 0, false, rfl, by repeat (first | with_reducible exact b01 | with_reducible refine Below.setCell ?_ (by first | (simp; done) | (simp; omega) | omega) _), fun h => by simp at h, by simp [zeroA], by simp [zeroA], .inl ⟨rfl, rfl⟩, .inl ⟨rfl, rfl⟩⟩
  · rw [hn] at ls ⊢
    have hne : ((n : Int) == 0) = false := by rw [beq_eq_false_iff_ne]; omega
    have HW1 := Lib.hid (HB.out.below b01)
    clear hn
    go_wp2_with fail
    refine (gRow b lb cb y hlb _ HW1.out).mono ?_; rintro e' w2 ⟨v2, m, rfl, b2, gm, lm, own2⟩
    have R2 := RowV.ofOwn own2
    have OWN12 := own_below OWN1.out b2
    have R12 := RowV.ofOwn OWN12
    have D2 := D1.belowB D1.lt b2
    have b02 := b01.trans (b2.mono b01.size)
    clear d0 d1 d2 d3 d4 y0 y1 y2 y3 y4 D1 b2
    have GP := gPart v2 (.slice x1 s.length c1) m s gm GS.out lm (by rw [HN.out]; exact ls) w2 R2 R12
    rw [HN.out] at GP
    go_wp2_with fail
    refine GP.mono ?_; rintro e' w3 ⟨v3, q, rfl, b3, gq, lq, iq, own3⟩
    have R3 := RowV.ofOwn own3
    have own13 := own_below OWN12 b3
    have s02 := b02.size
    have hB2 : w.heap.size < w2.heap.size := D2.lt
    have D3 := D2.belowB D2.lt b3
    have b03 := b02.trans (b3.mono b02.size)
    obtain ⟨x3, c3, hv3, _⟩ := R3.form
    subst hv3
    obtain ⟨⟨d0, d1, d2, d3, d4⟩, fz⟩ := D3.cells
    have y0 := fz 0
    have y1 := fz 1
    have y2 := fz 2
    have y3 := fz 3
    have y4 := fz 4
    clear fz GP D2 b3 b02
    have lD := D3.lt
    go_wp2_with fail
    obtain ⟨w4, hw4⟩ : ∃ w4, w4 = ((((w3.setCell ⟨w.heap.size, 0, none⟩ (.slice x1 n c1)).setCell ⟨w.heap.size, 1, none⟩ (.slice x3 q.length c3)).setCell ⟨w.heap.size, 2, none⟩ (.int .u64 t)).setCell ⟨w.heap.size, 3, none⟩ (.int .u64 r)).setCell ⟨w.heap.size, 4, none⟩ (.bool p) := ⟨_, rfl⟩
    have k4 : Kept w.heap.size w3 w4 := fun i hi hl => by rw [hw4, kept_set _ _ _ _ hi, kept_set _ _ _ _ hi, kept_set _ _ _ _ hi, kept_set _ _ _ _ hi, kept_set _ _ _ _ hi]
    have A4 : AckAt w4 w.heap.size (.slice x1 n c1) (.slice x3 q.length c3) (.int .u64 t) (.int .u64 r) (.bool p) := by rw [hw4]; exact heap_set_self _ _ _ _ _ _ _ (heap_set_self _ _ _ _ _ _ _ (heap_set_self _ _ _ _ _ _ _ (heap_set_self _ _ _ _ _ _ _ (heap_set_self _ _ _ _ _ _ _ D3))))
    have b04 : Below w.heap.size w w4 := by rw [hw4]; repeat (first | with_reducible exact b03 | with_reducible refine Below.setCell ?_ (by first | (simp; done) | (simp; omega) | omega) _)
    have P1 := RowV.ofOwn (ownKept own13 hB0 k4)
    have P3 := RowV.ofOwn (ownKept own3 hB2 k4)
    rw [HN.out] at P1
    rw [← hw4]
    clear hw4 d0 d1 d2 d3 d4 y0 y1 y2 y3 y4 D3
    obtain ⟨a0, a1, a2, a3, a4⟩ := A4.cells.1
    have hm : MayA ⟨s, q, t, r, p⟩ := ⟨GS.out, gq, ⟨by simp only; rw [HN.out]; omega, by simp only; rw [HN.out]; exact ls⟩, lq, iq, HT.out, HR.out⟩
    refine bodyPost_ret (v := .tuple #[.agg #[.slice x1 n c1, .slice x3 q.length c3, .int .u64 t, .int .u64 r, .bool p], .bool true]) (by simp [results, Try.results35, go_sem, a0, a1, a2, a3, a4]) rfl ⟨⟨s, q, t, r, p⟩, .slice x1 n c1, .slice x3 q.length c3, true, rfl, b04, fun _ => hm, by simp only; rw [HN.out]; exact ls, lq, P1, P3⟩

end Go.Proofs.Ytofggpmllfhgaaa
