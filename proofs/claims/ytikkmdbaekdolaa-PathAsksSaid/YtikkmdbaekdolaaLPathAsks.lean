/- For all fates, rows of datagrams that are put and words a and b, PathAsks returns true: what comes bit by bit is what comes at once. No condition. -/
import Derived.Test.YtikkmdbaekdolaaBase
import Derived.SizedLaws
import Derived.Test.YtikkmdbaekdolaaPath6
import Derived.Test.YtikkmdbaekdolaaPutArg
import Derived.Test.YtikkmdbaekdolaaReno
import Derived.Test.YtikkmdbaekdolaaTurn
namespace Go.Proofs.Ytikkmdbaekdolaa.pathAsks
open Go.ChangeShapes Go.WideShapes Go.ChangeAt Go.RowKit Go.Lib
set_option linter.unusedVariables false
set_option maxRecDepth 100000

/-! ### the plain law: what comes by a and then by b is what comes by b -/
theorem comeN_split : ∀ (l : List Itm) (a b : Int), a ≤ b → comeN l b = comeN l a + comeN (l.drop (comeN l a)) b
  | [], _, _, _ => rfl
  | d :: l, a, b, h => by
    by_cases ha : d.at_ ≤ a
    · have hb : d.at_ ≤ b := by omega
      have := comeN_split l a b h
      simp only [comeN, if_pos ha, if_pos hb, List.drop_succ_cons]
      omega
    · simp only [comeN, if_neg ha, List.drop_zero]
      omega
theorem markF_len (bs : List Int) (hb : ∀ x ∈ bs, 0 ≤ x ∧ x ≤ 255) : (markF bs).length = bs.length := by
  unfold markF
  split
  · rename_i h
    obtain ⟨hm, he⟩ := getF_ok bs hb (getF bs).2 (by rw [← h])
    have : (putD (markD (getF bs).2)).length = (putD (getF bs).2).length := by simp [putD, markD]
    rw [this, he]
  · rfl
theorem insS_mem {L : List (Int × List Int)} {x p : Int × List Int} (h : p ∈ insS L x) : p ∈ L ∨ p = x := by
  unfold insS at h
  simp only [List.mem_append, List.mem_cons] at h
  rcases h with h | h | h
  · exact .inl (List.mem_of_mem_take h)
  · exact .inr h
  · exact .inl (List.mem_of_mem_drop h)
theorem insS_len (L : List (Int × List Int)) (x : Int × List Int) : (insS L x).length = L.length + 1 := by
  unfold insS
  simp
  omega
theorem putS_len (fl : List FateP) (n : Nat) (L : List (Int × List Int)) (now : Int) (bs : List Int) : (putS fl n L now bs).length ≤ L.length + 2 := by
  unfold putS
  dsimp only
  split
  · omega
  · split <;> simp only [insS_len] <;> omega
theorem putS_ok (fl : List FateP) (n : Nat) (L : List (Int × List Int)) (now : Int) (bs : List Int) (hb : ∀ x ∈ bs, 0 ≤ x ∧ x ≤ 255) (M : Nat) (h1 : bs.length ≤ M) (h2 : ∀ p ∈ L, p.2.length ≤ M) : ∀ p ∈ putS fl n L now bs, p.2.length ≤ M := by
  have hx : ((if (fl.getD n zF).mark = true then markF bs else bs) : List Int).length ≤ M := by
    split
    · rw [markF_len bs hb]; exact h1
    · exact h1
  intro p hp
  unfold putS at hp
  dsimp only at hp
  split at hp
  · exact h2 p hp
  · split at hp
    · rcases insS_mem hp with hp | rfl
      · rcases insS_mem hp with hp | rfl
        · exact h2 p hp
        · exact hx
      · exact hx
    · rcases insS_mem hp with hp | rfl
      · exact h2 p hp
      · exact hx
theorem body_lt {w : World} {v : Value} {bs : List Int} (h : BodyAt w v bs) (hne : bs ≠ []) : ∀ g, v.ownBlock = some g → g < w.heap.size := by
  rcases h with ⟨x, c, e, _, h⟩ | ⟨g, o, c, rfl, l1, l2, l3, b1, b2⟩
  · exact absurd h hne
  · intro g' e
    have : g = g' := by simpa [Value.ownBlock] using e
    subst this
    exact b1

theorem lstOfOwn {w : World} {B n : Nat} {v : Value} {us : List Value} {L : List (List Int)} (hown : w.ownsRow B 44 1 v n us) (hu : us.length = n) (hL : L.length = n) (hb : ∀ i, i < n → BodyAt w (us.getD i undef) (L.getD i [])) : ∃ x c, v = .slice x n c ∧ (n : Int) ≤ (c : Int) ∧ (c : Int) ≤ 9223372036854775807 ∧ LstAt w x L := by
  obtain ⟨hlen, ⟨rfl, h2⟩ | ⟨g, c, cur, rfl, hg, hheap, hc, hm, hcs, htake⟩⟩ := hown
  · rw [h2]
    exact ⟨none, 0, rfl, by omega, by omega, .inl (List.eq_nil_of_length_eq_zero (by omega))⟩
  · unfold maxLen at hm
    refine ⟨_, c, rfl, by omega, by omega, .inr ⟨g, 0, us, rfl, (Array.getElem?_eq_some_iff.1 hheap).1, by omega, fun i hi => ⟨?_, hb i (by omega)⟩⟩⟩
    have e : us[i]? = some (us.getD i undef) := by rw [List.getD_eq_getElem?_getD, List.getElem?_eq_getElem (by omega)]; rfl
    have e2 : cur.toList[i]? = us[i]? := by rw [← htake, List.getElem?_take, if_pos (by omega)]
    rw [cell_of_row w g _ cur _ _ hheap, Nat.zero_add, ← Array.getElem?_toList, e2, e]

set_option maxHeartbeats 16000000 in
theorem walkN (xf0 : Option Addr) (cf0 : Nat) (fl : List FateP) (hx0 : xf0 = none → fl = []) (hfd : ∀ d ∈ fl, W64 d.delay) (hfb : fl.length * 16 ≤ 140737488355328) (x : Option Addr) (c : Nat) (l : List PutP) (hl9 : l.length ≤ 9223372036854775807) (a b : Int) (wa : W64 a) (wb : W64 b) (w : World) (hF : FRow w xf0 fl) (hP : PutsRow w x l) :
    Calls Try.prog 6 #[.slice xf0 fl.length cf0, .slice x l.length c, .int .u64 a, .int .u64 b] w fun e w' => e = .returned (.bool true) ∧ Below w.heap.size w w' := by
  obtain ⟨i1, hi1, hzz1, hs1, hbb1⟩ := info_parts (P := Try.prog) (e := 44) (z := .slice none 0 0) (size := 1) (bytes := 24) (by kernel_rfl)
  have HP := Lib.hid hP
  have HFD := Lib.hid hfd
  have HNEW := Lib.hid (pNew (fun _ => False) xf0 cf0 fl hx0 hfb w (fun _ h => h.elim) hF)
  have HFB := Lib.hid hfb
  obtain ⟨n, hn⟩ : ∃ n, l.length = n := ⟨_, rfl⟩
  have HN := Lib.hid hn
  obtain ⟨nf, hnf⟩ : ∃ n, fl.length = n := ⟨_, rfl⟩
  have HNF := Lib.hid hnf
  rw [hn] at hl9 ⊢
  rw [hnf] at HNEW ⊢
  have hnI : (n : Int) ≤ 9223372036854775807 := by omega
  clear hP hn hnf hfd hfb hF hx0
  go_enter Try.func6, Try.ntmps6
  go_wp2_with fail
  ((with_reducible refine HNEW.out.mono ?_); rintro e' w2 ⟨P, xf, cf, rfl, b2, hPw, PA⟩)
  have HPA := Lib.hid PA
  clear PA HNEW
  go_wp2_with fail
  ((with_reducible refine (alivePath _).mono ?_); rintro e' w3 ⟨rfl, b3⟩)
  have c3 := b2.trans (b3.mono b2.size)
  by_cases hc : 100 < n ∨ b < a
  · rcases Nat.lt_or_ge 100 n with h6 | h6
    · have d1 : decide ((100 : Int) < (n : Int)) = true := decide_eq_true (by omega)
      clear hc
      go_wp2_with fail
      ((with_reducible refine (alivePath _).mono ?_); rintro e' wB ⟨rfl, bB⟩)
      go_wp2_with fail
      go_ret
      exact ⟨rfl, c3.trans (bB.mono c3.size)⟩
    · have d1 : decide ((100 : Int) < (n : Int)) = false := decide_eq_false (by omega)
      have d2 : decide (b < a) = true := decide_eq_true (by omega)
      clear hc
      go_wp2_with fail
      ((with_reducible refine (alivePath _).mono ?_); rintro e' wB ⟨rfl, bB⟩)
      go_wp2_with fail
      go_ret
      exact ⟨rfl, c3.trans (bB.mono c3.size)⟩
  have d1 : decide ((100 : Int) < (n : Int)) = false := decide_eq_false (by omega)
  have d2 : decide (b < a) = false := decide_eq_false (by omega)
  have hn100 : n ≤ 100 := by omega
  have hab : a ≤ b := by omega
  have HAB := Lib.hid hab
  have PB := HPA.out.same (Chg.ofBelow b3)
  have HPB := Lib.hid PB
  clear HPA PB hc hab
  go_wp2_with fail
  go_loopw [38] (fun iv wr => ∃ (k : Nat) (vp : Value) (li : List Itm) (ms : Nat → Prop), iv = .int .i64 (k : Int) ∧ k ≤ n ∧ Below w.heap.size w wr ∧ (∀ g, ms g → w.heap.size ≤ g) ∧ PipeAt wr ms P xf cf fl (k : Int) vp li ∧ li.length ≤ 2 * k ∧ (∀ p ∈ li.map pr, p.2.length ≤ 140737488351232)) (fun iv _ => (n - Lib.intOf iv).toNat)
  case atStart => exact ⟨0, .slice none 0 0, [], _, rfl, Nat.zero_le _, c3, fun g h => h.elim (fun h => h.elim) (fun h => by rw [h]; exact hPw), HPB.out, by simp, fun p hp => by simp at hp⟩
  case round =>
    obtain ⟨k, vp, li, ms, rfl, hk, hbel, hmsw, hpipe, hli, hlb⟩ := hrel
    have HB := Lib.hid hbel
    have HMS := Lib.hid hmsw
    have HPI := Lib.hid hpipe
    have HLI := Lib.hid hlb
    have sW := hbel.size
    have HPW : Hid (w.heap.size ≤ P) := hPw
    clear hbel hmsw hpipe hlb
    by_cases hkn : k < n
    case neg =>
      have hke : k = n := by omega
      subst hke
      have dk : decide ((k : Int) < (k : Int)) = false := decide_eq_false (by omega)
      have HFK := Lib.hid (pFork ms P xf cf fl k vp li (by omega) HFB.out wr HPI.out)
      go_wp2_with fail
      ((refine HFK.out.mono ?_); rintro e' w4 ⟨Q, xq, cq, vq, ms', rfl, b4, hQ, hvq, hup, hdn, PQ⟩)
      have lP := HPI.out.row.lt
      have hvp : ∀ g, vp.ownBlock = some g → g < wr.heap.size := fun g h => HPI.out.msl g (HPI.out.vms g h).1
      have PP := HPI.out.chg (ms' := ms') (Chg.ofBelow (ms := fun _ => False) b4) (fun h => h) (fun _ _ h => h) (fun _ _ h => h.elim) (fun i hi h => (hdn i h).elim (fun h => h) (fun h => by omega)) hup PQ.msl
      obtain ⟨xp, cp, rfl, RP⟩ := PP.rd
      obtain ⟨yq, dq, rfl, RQ⟩ := PQ.rd
      have hPm := PP.mine
      have hQm := PQ.mine
      have hPQ : P ≠ Q := by omega
      have hyP : ∀ g o, li ≠ [] → yq = some ⟨g, o, none⟩ → g ≠ P := fun g o _ e => by
        have := hvq g (by rw [e]; rfl)
        omega
      have hyB : ∀ g o, li ≠ [] → yq = some ⟨g, o, none⟩ → g < w4.heap.size := fun g o hne e => by
        rcases RQ.it with h | ⟨g', o', h, hl, _⟩
        · exact absurd h hne
        · rw [e] at h
          cases h
          exact hl
      have HYB := Lib.hid hyB
      have hxB : ∀ g o, li ≠ [] → xp = some ⟨g, o, none⟩ → g < w4.heap.size ∧ g ≠ Q := fun g o hne e => by
        have := hvp g (by rw [e]; rfl)
        have := b4.size
        exact ⟨by omega, by omega⟩
      have HXB := Lib.hid hxB
      have hbs : ∀ d ∈ li, d.bs.length ≤ 140737488351232 := fun d hd => HLI.out _ (List.mem_map.2 ⟨d, hd, rfl⟩)
      have c4 : Below w.heap.size w w4 := HB.out.trans (b4.mono sW)
      have F1 := pComeX ms' P _ _ xp cp li a (by omega) hbs w4 PP.msl RP
      have HF1 := Lib.hid F1
      have HRQ := Lib.hid RQ
      have HML4 := Lib.hid PP.msl
      have HYP := Lib.hid hyP
      have HBS := Lib.hid hbs
      have HC4 := Lib.hid c4
      have hPr4 : P < w4.heap.size := RP.row.lt
      have hQr4 : Q < w4.heap.size := RQ.row.lt
      have hcut := comeN_split li a b HAB.out
      have hk1 := comeN_le li a
      have hk2 := comeN_le (li.drop (comeN li a)) b
      rw [List.length_drop] at hk2
      obtain ⟨k1, hk1e⟩ : ∃ k1, comeN li a = k1 := ⟨_, rfl⟩
      rw [hk1e] at hcut hk1 hk2 HF1
      obtain ⟨k2, hk2e⟩ : ∃ k2, comeN (li.drop k1) b = k2 := ⟨_, rfl⟩
      rw [hk2e] at hcut hk2
      have HK2 := Lib.hid hk2e
      have HCUT := Lib.hid hcut
      clear F1 RQ RP PP PQ hyP hyB hxB hbs c4 hup hdn hvq hvp HFK b4 hk1e hk2e hcut
      have hl200 : li.length ≤ 200 := by omega
      go_wp2_with fail
      ((refine HF1.out.mono ?_); rintro e' w5 ⟨v5, x5, c5, rfl, K5, RP5, L5, B5⟩)
      have HBK5 := Lib.hid B5
      obtain ⟨us5, hu5, hown5, hb5, hone5⟩ := L5.own
      have hl5 : us5.length = k1 := by rw [hu5, List.length_map, List.length_take]; omega
      rw [hl5] at hown5
      obtain ⟨x5v, c5v, rfl⟩ := own_slice hown5
      have s4 := K5.size
      have hB5 := fun i hi => (hb5 i hi)
      have HB5 := Lib.hid hb5
      have HU5 := Lib.hid hu5
      have HL5 := Lib.hid hl5
      have HONE5 := Lib.hid hone5
      have c5' : Below w.heap.size w w5 := HC4.out.trans (K5.below HC4.out.size (fun i h => by rw [h]; exact HPW.out))
      have HC5 := Lib.hid c5'
      have HSRC5 := Lib.hid (ownSrc hown5)
      have HRQ5 := Lib.hid (HRQ.out.chg K5 (fun h => hPQ h.symm) HYP.out (fun i _ h => by rw [h]; exact hPm) (fun _ _ h => h) hQm)
      have HRP5 := Lib.hid RP5
      have HM5 : Hid (MsL w5 ms') := fun g h => Nat.lt_of_lt_of_le (HML4.out g h) K5.size
      have s5 := HC5.out.size
      clear HF1 hb5 hu5 hone5 hB5 hown5 L5 RP5 K5 B5 c5' hl5 HRQ
      go_wp2_with (at_builtin; refine wpList_append_any _ rfl (.const (.slice none 0 0)) (.tmp 61) 43 rfl w5.heap.size 44 i1 (.slice none 0 0) 1 24 Try.underlying43 hi1 hzz1 hs1 hbb1 rfl (by decide) (.slice none 0 0) 0 [] rfl (World.ownsRow_nil _ _ _ _) x5v k1 c5v us5 rfl (by rw [HL5.out, Nat.mul_one]) HSRC5.out HONE5.out (by simp [maxLen]; omega) (by omega) (Nat.le_refl _) ?_; intro v6 w6 own6 hgrow6 hat6; simp only [Nat.zero_add, List.nil_append] at own6)
      have K6 : Chg (fun _ => False) w5 w6 := (Chg.ofGrown hgrow6).mono (fun i _ e => by cases e)
      have h6 : ∀ g, v6.ownBlock = some g → w5.heap.size ≤ g ∧ g < w6.heap.size := fun g e => own6.lt g e
      have HM6 : Hid (MsL w6 (fun g => ms' g ∨ v6.ownBlock = some g)) := fun g h => h.elim (fun h => Nat.lt_of_lt_of_le (HM5.out g h) K6.size) (fun h => (h6 g h).2)
      have HM65 : Hid (∀ i, i < w5.heap.size → (ms' i ∨ v6.ownBlock = some i) → ms' i) := fun i hi h => h.elim (fun h => h) (fun h => by have := (h6 i h).1; omega)
      have RP6 := HRP5.out.chg (ms' := fun g => ms' g ∨ v6.ownBlock = some g) K6 (fun h => h) (fun _ _ _ _ h => h) (fun _ _ h => h.elim) HM65.out (.inl hPm)
      have RQ6 := HRQ5.out.chg (ms' := fun g => ms' g ∨ v6.ownBlock = some g) K6 (fun h => h) (fun _ _ _ _ h => h) (fun _ _ h => h.elim) HM65.out (.inl hQm)
      have F2 := pComeX _ P _ _ x5 c5 (li.drop k1) b (by rw [List.length_drop]; omega) (fun d hd => HBS.out d (List.mem_of_mem_drop hd)) w6 HM6.out RP6
      rw [HK2.out] at F2
      have HF2 := Lib.hid F2
      have HRQ6 := Lib.hid RQ6
      have H6 := Lib.hid h6
      have HOWN6 := Lib.hid own6
      have HK6 := Lib.hid K6
      have c6 := HC5.out.trans (K6.below s5 (fun i h => h.elim))
      have HC6 := Lib.hid c6
      have s6 := K6.size
      clear F2 RP6 RQ6 h6 own6 K6 c6 HRP5 HRQ5 HSRC5
      clear hgrow6 hat6
      go_wp2_with fail
      ((refine HF2.out.mono ?_); rintro e' w7 ⟨v7, x7, c7, rfl, K7, RP7, L7, B7⟩)
      have HBK7 := Lib.hid B7
      obtain ⟨us7, hu7, hown7, hb7, hone7⟩ := L7.own
      have hl7 : us7.length = k2 := by rw [hu7, List.length_map, List.length_take, List.length_drop]; omega
      rw [hl7] at hown7
      obtain ⟨x7v, c7v, rfl⟩ := own_slice hown7
      have own67 := Chg.own HOWN6.out K7 (fun g e h => by have := (H6.out g e).1; omega)
      have HO67 := Lib.hid own67
      have HB7 := Lib.hid hb7
      have HU7 := Lib.hid hu7
      have HL7 := Lib.hid hl7
      have HONE7 := Lib.hid hone7
      have HSRC7 := Lib.hid (ownSrc hown7)
      have HRQ7 := Lib.hid (HRQ6.out.chg (ms' := fun g => ms' g ∨ v6.ownBlock = some g) K7 (fun h => hPQ h.symm) HYP.out (fun i _ h => by rw [h]; exact .inl hPm) (fun _ _ h => h) (.inl hQm))
      have HRP7 := Lib.hid RP7
      have HK7 := Lib.hid K7
      have s7 := K7.size
      have HM7 : Hid (MsL w7 (fun g => ms' g ∨ v6.ownBlock = some g)) := fun g h => Nat.lt_of_lt_of_le (HM6.out g h) s7
      have HC7 := Lib.hid (HC6.out.trans (K7.below HC6.out.size (fun i h => by rw [h]; exact HPW.out)))
      clear HF2 hb7 hu7 hone7 hown7 L7 RP7 K7 B7 hl7 HRQ6 own67
      go_wp2_with (at_builtin; refine wpList_append_any _ rfl (.tmp 62) (.tmp 65) 43 rfl w5.heap.size 44 i1 (.slice none 0 0) 1 24 Try.underlying43 hi1 hzz1 hs1 hbb1 rfl (by decide) v6 k1 us5 rfl HO67.out x7v k2 c7v us7 rfl (by rw [HL7.out, Nat.mul_one]) HSRC7.out HONE7.out (by simp [maxLen]; omega) (by omega) (by omega) ?_; intro v8 w8 own8 hgrow8 hat8)
      have K8 : Chg (fun i => v6.ownBlock = some i) w7 w8 := Chg.ofGrown hgrow8
      have hX7 : ∀ g o, (li.drop k1).drop k2 ≠ [] → x7 = some ⟨g, o, none⟩ → g < w4.heap.size ∧ g ≠ Q := fun g o hne e => by
        obtain ⟨o', e'⟩ := HBK7.out g o hne e
        have hne1 : li.drop k1 ≠ [] := fun h => hne (by rw [h, List.drop_nil])
        obtain ⟨o'', e''⟩ := HBK5.out g o' hne1 e'
        exact HXB.out g o'' (fun h => hne1 (by rw [h, List.drop_nil])) e''
      have h6n : ∀ g, g < w4.heap.size → ¬ v6.ownBlock = some g := fun g hg e => by have := (H6.out g e).1; omega
      have RQ8 := HRQ7.out.chg (ms' := fun g => ms' g ∨ v6.ownBlock = some g) K8 (h6n _ hQr4) (fun g o hne e => h6n g (HYB.out g o hne e)) (fun i _ h => .inr h) (fun _ _ h => h) (.inl hQm)
      have RP8 := HRP7.out.chg (ms' := fun g => ms' g ∨ v6.ownBlock = some g) K8 (h6n _ hPr4) (fun g o hne e => h6n g (hX7 g o hne e).1) (fun i _ h => .inr h) (fun _ _ h => h) (.inl hPm)
      have F3 := pComeX _ Q _ _ yq dq li b (by omega) HBS.out w8 (fun g h => Nat.lt_of_lt_of_le (HM7.out g h) K8.size) RQ8
      rw [HCUT.out] at F3
      have HF3 := Lib.hid F3
      have HK8 := Lib.hid K8
      have HRP8 := Lib.hid RP8
      have HX7 := Lib.hid hX7
      have HOWN8 := Lib.hid own8
      have s8 := K8.size
      have c8 := HC7.out.trans (K8.below HC7.out.size (fun i h => by have := (H6.out i h).1; omega))
      have HC8 := Lib.hid c8
      have hv8 : ∀ g, v8.ownBlock = some g → w5.heap.size ≤ g := fun g e => (own8.lt g e).1
      have HV8 := Lib.hid hv8
      clear F3 RQ8 RP8 K8 hX7 own8 c8 hgrow8 hat8 hv8 HRQ7 HRP7
      go_wp2_with fail
      ((refine HF3.out.mono ?_); rintro e' w9 ⟨v9, x9, c9, rfl, K9, RQ9, L9, B9⟩)
      have s9 := K9.size
      have own9 := Chg.own HOWN8.out K9 (fun g e h => by have := HV8.out g e; omega)
      have c9' := HC8.out.trans (K9.below HC8.out.size (fun i h => by omega))
      have K79 : Chg (fun i => v6.ownBlock = some i ∨ i = Q) w7 w9 := (HK8.out.mono (fun i _ h => .inl h)).trans K9 (fun i h => .inl (.inr h))
      have K57 : Chg (fun i => i = P ∨ i = Q) w5 w7 := (HK6.out.mono (fun i _ h => h.elim)).trans HK7.out (fun i h => .inl (.inl h))
      have K59 : Chg (fun i => i = P ∨ i = Q) w5 w9 := K57.trans K79 (fun i h => h.elim (fun h => .inr (H6.out i h).1) (fun h => .inl (.inr h)))
      have htk : li.take (k1 + k2) = li.take k1 ++ (li.drop k1).take k2 := List.take_add
      have hlt : (li.take (k1 + k2)).length = k1 + k2 := by rw [List.length_take]; omega
      have hb9 : ∀ i, i < k1 + k2 → BodyAt w9 ((us5 ++ us7).getD i undef) (((li.take (k1 + k2)).map (·.bs)).getD i []) := fun i hi => by
        rw [htk, List.map_append]
        have e5 := HU5.out
        have e5' := HL5.out
        have e7 := HU7.out
        have e7' := HL7.out
        by_cases h : i < us5.length
        · rw [List.getD_eq_getElem?_getD, List.getElem?_append_left h, ← List.getD_eq_getElem?_getD, List.getD_eq_getElem?_getD (l := _ ++ _), List.getElem?_append_left (by omega), ← List.getD_eq_getElem?_getD]
          exact ((HB5.out i (by omega)).chg (ms' := fun _ => False) K59 (fun i _ h => h.elim (fun h => .inl (by rw [h]; exact hPm)) (fun h => .inl (by rw [h]; exact hQm))) (fun _ _ h => h.elim)).at
        · rw [List.getD_eq_getElem?_getD, List.getElem?_append_right (by omega), ← List.getD_eq_getElem?_getD, List.getD_eq_getElem?_getD (l := _ ++ _), List.getElem?_append_right (by omega), ← List.getD_eq_getElem?_getD, ← e5]
          exact ((HB7.out (i - us5.length) (by omega)).chg (ms' := fun _ => False) K79 (fun i _ h => h.elim (fun h => .inl (.inr h)) (fun h => .inl (.inl (by rw [h]; exact hQm)))) (fun _ _ h => h.elim)).at
      obtain ⟨z, zc, rfl, hz1, hz2, LZ⟩ := lstOfOwn own9 (by rw [List.length_append, HL5.out, HL7.out]) (by rw [List.length_map, hlt]) hb9
      obtain ⟨y, yc, hv9, hy1, hy2, LY⟩ := L9.lst
      rw [List.length_map, hlt] at hv9 hy1
      subst hv9
      have FS := rSameLists z y zc yc ((li.take (k1 + k2)).map (·.bs)) (by rw [List.length_map, hlt]; omega) (by rw [List.length_map, hlt]; exact hz1) (by rw [List.length_map, hlt]; exact hy1) w9 LZ LY
      rw [List.length_map, hlt] at FS
      have RP9 := HRP8.out.chg (ms' := fun g => ms' g ∨ v6.ownBlock = some g) K9 (fun h => hPQ h) (fun g o hne e => (HX7.out g o hne e).2) (fun i _ h => by rw [h]; exact .inl hQm) (fun _ _ h => h) (.inl hPm)
      have HFS := Lib.hid FS
      have HRP9 := Lib.hid RP9
      have HRQ9 := Lib.hid RQ9
      clear FS RP9 RQ9 LZ LY hb9 htk K57 K59 K79 own9 L9 B9 HF3 K9 hlt
      go_wp2_with fail
      ((refine HFS.out.mono ?_); rintro e' w10 ⟨rfl, b10⟩)
      have K10 : Chg (fun _ => False) w9 w10 := Chg.ofBelow b10
      have RP10 := HRP9.out.chg (ms' := fun g => ms' g ∨ v6.ownBlock = some g) K10 (fun h => h) (fun _ _ _ _ h => h) (fun _ _ h => h.elim) (fun _ _ h => h) (.inl hPm)
      have RQ10 := HRQ9.out.chg (ms' := fun g => ms' g ∨ v6.ownBlock = some g) K10 (fun h => h) (fun _ _ _ _ h => h) (fun _ _ h => h.elim) (fun _ _ h => h) (.inl hQm)
      rw [List.drop_drop] at RP10
      have c10 := c9'.trans (b10.mono c9'.size)
      have hdl : (li.drop (k1 + k2)).length ≤ 1000000 := by rw [List.length_drop]; omega
      have F4 := pWaits P _ _ x7 (li.drop (k1 + k2)).length c7 hdl w10 RP10.row
      have F5 := pWaits Q _ _ x9 (li.drop (k1 + k2)).length c9 hdl w10 RQ10.row
      have F6 := pFirst P _ _ x7 c7 (li.drop (k1 + k2)) hdl w10 RP10.row RP10.it
      have F7 := pFirst Q _ _ x9 c9 (li.drop (k1 + k2)) hdl w10 RQ10.row RQ10.it
      obtain ⟨FF, hFF⟩ : ∃ F : Int, (if (li.drop (k1 + k2)).length = 0 then (18446744073709551615 : Int) else ((li.drop (k1 + k2)).getD 0 zI).at_) = F := ⟨_, rfl⟩
      rw [hFF] at F6 F7
      obtain ⟨DL, hDL⟩ : ∃ n, (li.drop (k1 + k2)).length = n := ⟨_, rfl⟩
      rw [hDL] at F4 F5
      clear hFF hDL RP10 RQ10 HFS
      go_wp2_with fail
      ((refine F4.mono ?_); rintro e' w' ⟨rfl, rfl⟩)
      go_wp2_with fail
      ((refine F5.mono ?_); rintro e' w' ⟨rfl, rfl⟩)
      go_wp2_with fail
      ((refine F6.mono ?_); rintro e' w' ⟨rfl, rfl⟩)
      go_wp2_with fail
      ((refine F7.mono ?_); rintro e' w' ⟨rfl, rfl⟩)
      go_wp2_with fail
      go_ret
      exact ⟨rfl, c10⟩
    have dk : decide ((k : Int) < (n : Int)) = true := decide_eq_true (by omega)
    have hkI : (k : Int) < (n : Int) := by omega
    have hkl : k < l.length := by rw [HN.out]; exact hkn
    obtain ⟨g, o, rfl, hgl, hcell⟩ : ∃ g o, x = some ⟨g, o, none⟩ ∧ PutsAt w g o l := by
      rcases HP.out.1 with h | h
      · rw [h] at hkl; simp at hkl
      · exact h
    obtain ⟨d, hd⟩ : ∃ d, l.getD k zP = d := ⟨_, rfl⟩
    have hmem : d ∈ l := by rw [← hd, List.getD_eq_getElem?_getD, List.getElem?_eq_getElem hkl]; exact List.getElem_mem _
    have HOK := Lib.hid (HP.out.2 d hmem)
    obtain ⟨q0, q1, _⟩ := hcell k hkl
    rw [hd] at q0 q1
    obtain ⟨bx, bc, hdv⟩ := BodyAt.form HOK.out.body
    rw [hdv] at q0
    have p0 := (HB.out.cell (p := ⟨g, o + k * 3, none⟩) hgl).trans q0
    have p1 := (HB.out.cell (p := ⟨g, o + k * 3 + 1, none⟩) hgl).trans q1
    have HB0 : Hid (BodyAt w (.slice bx d.bs.length bc) d.bs) := by rw [← hdv]; exact HOK.out.body
    have HBF : Hid (BodyF wr ms (.slice bx d.bs.length bc) d.bs) := ⟨HB0.out.below HB.out, fun hne b e => fun hm => by
      have := body_lt HB0.out hne b e
      have := HMS.out b hm
      omega⟩
    have hwt := HOK.out.wait
    have HBY := Lib.hid HOK.out.byte
    have HLB := Lib.hid HOK.out.len
    obtain ⟨D, hD⟩ : ∃ D, d.wait = D := ⟨_, rfl⟩
    rw [hD] at p1 hwt
    have hw1 : IntKind.u64.wrap D = D := by rw [IntKind.wrap_u64]; omega
    have hWT : Hid (W64 D) := by unfold W64; exact ⟨by omega, by omega⟩
    clear hD hcell q0 q1 hdv hmem
    have KD : Chg (fun _ => False) wr wr.drew := (Chg.refl _ wr).drew'
    have HKD := Lib.hid KD
    have HPD := Lib.hid (PipeAt.same HPI.out KD)
    have HBD : Hid (BodyF wr.drew ms (.slice bx d.bs.length bc) d.bs) := HBF.out.chg KD (fun _ _ h => h.elim) (fun _ _ h => h)
    clear KD
    go_wp2_with fail
    refine region_tail 12 (by kernel_rfl) (by kernel_rfl) ?_
    simp only [List.take_succ_cons, List.take_zero, List.drop_succ_cons, List.drop_zero]
    repeat still_step
    refine wpStill_nil ?_
    go_wp2_with fail
    ((refine (pPut ms P xf cf fl k vp li bx d.bs.length bc d.bs D HBY.out HLB.out hWT.out HFD.out (by have := HFB.out; omega) (by omega) (by omega) wr.drew HPD.out HBD.out).mono ?_); rintro e' w4 ⟨rfl, v4, l4, ms4, K4, o4, u4', d4, PA4, e4⟩)
    have hvw : Hid (∀ g, vp.ownBlock = some g → w.heap.size ≤ g) := fun g h => HMS.out g (HPI.out.vms g h).1
    have c4 : Below w.heap.size w w4 := (HB.out.trans (HKD.out.below sW (fun i h => h.elim))).trans (K4.below (Nat.le_trans sW HKD.out.size) (fun i h => h.elim (fun h => by rw [h]; exact HPW.out) (fun h => hvw.out i h)))
    have HD4 := Lib.hid d4
    have HPA4 := Lib.hid PA4
    have HE4 := Lib.hid e4
    have HC4 := Lib.hid c4
    clear K4 o4 u4' d4 PA4 e4 c4 p0 p1
    go_wp2_with fail
    go_roundw
    case rel =>
      refine ⟨k + 1, v4, l4, ms4, by simp, by omega, HC4.out, fun g h => ?_, by simpa using HPA4.out, ?_, ?_⟩
      · rcases HD4.out g h with h | h
        · exact HMS.out g h
        · have := HKD.out.size
          omega
      · have := putS_len fl k (li.map pr) D d.bs
        rw [← HE4.out, List.length_map, List.length_map] at this
        omega
      · rw [HE4.out]
        exact putS_ok fl k _ D d.bs HBY.out _ HLB.out HLI.out
    case measure =>
      simp [Lib.intOf]
      omega

theorem walk (a0 : Option Addr) (len0 cap0 : Nat) (a1 : Option Addr) (len1 cap1 : Nat) (a2 a3 : Int) (w : World) (h0 : ∃ l : List FateP, l.length = len0 ∧ (a0 = none → l = []) ∧ FRow w a0 l ∧ (∀ d ∈ l, W64 d.delay) ∧ l.length * 16 ≤ 140737488355328) (h1 : ∃ l : List PutP, l.length = len1 ∧ PutsRow w a1 l ∧ len1 ≤ 9223372036854775807) (h2 : W64 a2) (h3 : W64 a3) :
    Calls Try.prog 6 #[.slice a0 len0 cap0, .slice a1 len1 cap1, .int .u64 a2, .int .u64 a3] w fun e w' => e = .returned (.bool true) ∧ Below w.heap.size w w' := by
  obtain ⟨fl, rfl, hx, hF, hd, hb⟩ := h0
  obtain ⟨l, rfl, hP, h9⟩ := h1
  exact walkN a0 cap0 fl hx hd hb a1 cap1 l h9 a2 a3 h2 h3 w hF hP

/-! ### the row's step -/
set_option maxRecDepth 100000 in
theorem lifted (os : Os) (started : os.Started) (H : Type) (enc : TypeId × Value → H) :
    ReturnsInHanded {} Try.checked os 6 .any (Rows.pathAsksSpec.pre6 enc Try.prog Try.f6 Rows.pathAsksRow.domain false) (Rows.pathAsksSpec.post enc Try.prog Try.f6 false true false false) := by
  refine returnsInHanded_of_change_sized (C := Try.checked) own started (by kernel_rfl) Try.func6
    (ChangeSpec.witness6 (enc := enc) (C := Try.checked) false ⟨#[], #[.slice none 0 0, .slice none 0 0, .int .u64 0, .int .u64 0], []⟩ 8 (by kernel_rfl) (by kernel_rfl) (by kernel_rfl) (by kernel_rfl)) ?_
  intro W base args ds gs before hval0 hW hcnd hsz0 _
  have hsz : (DataW.weightsEach Try.prog (Try.f6.params.toList ++ Rows.pathAsksSpec.plain.varTypes Try.prog) (ds ++ gs)).all (· ≤ reachBytes) = true := hsz0
  clear hsz0
  have hval : ∀ (j : Nat) t v, Try.f6.params[j]? = some t → args[j]? = some v → Value.okWide Try.prog W .any base t v := hval0
  have hW' := hW
  obtain ⟨p, q, hA0, hV, rfl, hfz, hnd⟩ := hW
  have hA : DataW.TrodAll enc Try.prog W 0 (fun _ => true) true Try.f6.params.toList args.toList ds p := hA0
  rw [Try.params6] at hA hval hsz
  obtain ⟨v0, vs0, d0, ds0, p0, q0, hargs, rfl, rfl, h0, r0⟩ := trodAll_cons hA
  obtain ⟨v1, vs1, d1, ds1, p1, q1, rfl, rfl, rfl, h1, r1⟩ := trodAll_cons r0
  obtain ⟨v2, vs2, d2, ds2, p2, q2, rfl, rfl, rfl, h2, r2⟩ := trodAll_cons r1
  obtain ⟨v3, vs3, d3, ds3, p3, q3, rfl, rfl, rfl, h3, r3⟩ := trodAll_cons r2
  obtain ⟨rfl, rfl, rfl⟩ := trodAll_nil r3
  obtain rfl : args = #[v0, v1, v2, v3] := by cases args; simp_all
  obtain ⟨rfl, rfl⟩ := trodVars_none hV
  obtain ⟨a0, len0, cap0, rfl⟩ := okWide_slice Try.underlying53 (hval 0 53 v0 rfl rfl)
  have k0 := h0
  have lt0 : ∀ x ∈ p0, x.block < W.heap.size := by obtain ⟨m, hm⟩ := k0; exact DataW.trod_lt m _ _ _ hm
  have w0 : ∃ l : List FateP, l.length = len0 ∧ (a0 = none → l = []) ∧ FRow W a0 l ∧ (∀ d ∈ l, W64 d.delay) ∧ l.length * 16 ≤ 140737488355328 := by
    obtain ⟨fuel, hf⟩ := h0
    exact fates_of (by simpa [Value.cells] using hf) (sized_one hsz (j := 0) (t := 53) rfl rfl)
  obtain ⟨a1, len1, cap1, rfl⟩ := okWide_slice Try.underlying40 (hval 1 40 v1 rfl rfl)
  have k1 := h1
  have lt1 : ∀ x ∈ p1, x.block < W.heap.size := by obtain ⟨m, hm⟩ := k1; exact DataW.trod_lt m _ _ _ hm
  have w1 : ∃ l : List PutP, l.length = len1 ∧ PutsRow W a1 l ∧ len1 ≤ 9223372036854775807 := by
    obtain ⟨fuel, hf⟩ := h1
    exact puts_of (by simpa [Value.cells] using hf) (sized_one hsz (j := 1) (t := 40) rfl rfl)
  obtain ⟨a2, rfl, rfl, rfl, w2⟩ := open_int Try.underlying22 (hval 2 22 v2 rfl rfl) h2
  obtain ⟨a3, rfl, rfl, rfl, w3⟩ := open_int Try.underlying22 (hval 3 22 v3 rfl rfl) h3
  clear hA0 hval0
  refine (walk a0 len0 cap0 a1 len1 cap1 a2 a3 W w0 w1 (wfU64 w2) (wfU64 w3)).mono fun e W' ⟨he, bel⟩ => ?_
  subst he
  exact ⟨_, rfl, _, _, _, [], _, [], hW', trodAll_mk1 (shut_bool Try.underlying4 _), (trodAll_cons_mk (Below.trod laidOut (by kernel_rfl) (of_decide_eq_true (by kernel_rfl)) k0 bel lt0) (trodAll_cons_mk (Below.trod laidOut (by kernel_rfl) (of_decide_eq_true (by kernel_rfl)) k1 bel lt1) (trodAll_cons_mk (shut_int Try.underlying22 w2) (trodAll_cons_mk (shut_int Try.underlying22 w3) trodAll_mk0)))), rfl, bel.frame _, fun h => by cases h⟩

theorem over : Rows.pathAsksRow.holds Try.pinned (OpenSpec.ofChange Rows.pathAsksSpec) :=
  OpenClaim.holds_of_wide 6 Try.f6 rfl rfl rfl rfl rfl rfl rfl ⟨rfl, rfl, rfl, rfl, rfl⟩ rfl rfl rfl rfl rfl (by kernel_rfl) Try.func6 (by kernel_rfl)
    (of_decide_eq_true (by kernel_rfl)) (by unfold Func.isWrapper; first | (rw [if_pos (by decide +kernel)]; kernel_rfl) | (rw [if_neg (by decide +kernel)]; exact ⟨rfl, rfl⟩))
    (fun os started H enc _ => lifted os started H enc)

/-- THE STATEMENT -/
theorem proved : Rows.PathAsksSaid := over
end Go.Proofs.Ytikkmdbaekdolaa.pathAsks
