/- For all rows of datagrams that are put, PathClean returns true: without fates all comes, in order, as it was put. No condition. -/
import Derived.Test.YtikkmdbaekdolaaBase
import Derived.SizedLaws
import Derived.Test.YtikkmdbaekdolaaPath6
import Derived.Test.YtikkmdbaekdolaaPutArg
namespace Go.Proofs.Ytikkmdbaekdolaa.pathClean
open Go.ChangeShapes Go.WideShapes Go.ChangeAt Go.RowKit Go.Lib
set_option linter.unusedVariables false
set_option maxRecDepth 100000

/-! ### the plain law: without fates all comes as it was put -/
def nowAt (l : List PutP) : Nat → Int
  | 0 => 0
  | i + 1 => nowAt l i + (l.getD i zP).wait
def preL (l : List PutP) : Nat → List (Int × List Int)
  | 0 => []
  | i + 1 => preL l i ++ [(nowAt l (i + 1), (l.getD i zP).bs)]
theorem preL_len (l : List PutP) : ∀ i, (preL l i).length = i
  | 0 => rfl
  | i + 1 => by simp [preL, preL_len l i]
theorem getW {l : List PutP} (hw : ∀ d ∈ l, 0 ≤ d.wait ∧ d.wait ≤ 4294967295) (i : Nat) : 0 ≤ (l.getD i zP).wait ∧ (l.getD i zP).wait ≤ 4294967295 := by
  rw [List.getD_eq_getElem?_getD]
  by_cases h : i < l.length
  · rw [List.getElem?_eq_getElem h]
    exact hw _ (List.getElem_mem h)
  · rw [List.getElem?_eq_none (by omega)]
    exact ⟨Int.le_refl _, by simp [zP]⟩
theorem nowAt_ge {l : List PutP} (hw : ∀ d ∈ l, 0 ≤ d.wait ∧ d.wait ≤ 4294967295) : ∀ i, 0 ≤ nowAt l i ∧ nowAt l i ≤ i * 4294967295
  | 0 => by simp [nowAt]
  | i + 1 => by
    have h1 := nowAt_ge hw i
    have h2 := getW hw i
    simp only [nowAt]
    omega
theorem preL_le {l : List PutP} (hw : ∀ d ∈ l, 0 ≤ d.wait ∧ d.wait ≤ 4294967295) : ∀ i, ∀ p ∈ preL l i, p.1 ≤ nowAt l i
  | 0, p, h => by simp [preL] at h
  | i + 1, p, h => by
    have h2 := getW hw i
    simp only [preL, List.mem_append, List.mem_singleton] at h
    rcases h with h | rfl
    · have := preL_le hw i p h
      simp only [nowAt]
      omega
    · exact Int.le_refl _
theorem preL_bs (l : List PutP) : ∀ i, i ≤ l.length → (preL l i).map (·.2) = (l.take i).map (·.bs)
  | 0, _ => rfl
  | i + 1, h => by
    rw [preL, List.map_append, preL_bs l i (by omega), List.take_add_one, List.map_append, List.getD_eq_getElem?_getD, List.getElem?_eq_getElem (by omega)]
    rfl
theorem insKS_all (L : List (Int × List Int)) (a : Int) (h : ∀ p ∈ L, p.1 ≤ a) : insKS L a L.length = L.length := by
  rcases hL : L.length with _ | k
  · rfl
  · unfold insKS
    have : (L.getD k (0, [])) ∈ L := by rw [List.getD_eq_getElem?_getD, List.getElem?_eq_getElem (by omega)]; exact List.getElem_mem _
    rw [if_neg (by have := h _ this; omega)]
theorem putS_clean (n : Nat) (L : List (Int × List Int)) (now : Int) (hn : W64 now) (bs : List Int) (h : ∀ p ∈ L, p.1 ≤ now) : putS [] n L now bs = L ++ [(now, bs)] := by
  have ha : addI now 0 = now := by
    unfold W64 at hn
    unfold addI
    omega
  have h1 : putS [] n L now bs = insS L (addI now 0, bs) := rfl
  rw [h1, ha]
  unfold insS
  rw [insKS_all L now h, List.take_length, List.drop_length]
theorem comeN_all : ∀ (l : List Itm) (now : Int), (∀ d ∈ l, d.at_ ≤ now) → comeN l now = l.length
  | [], _, _ => rfl
  | d :: l, now, h => by
    unfold comeN
    rw [if_pos (h d (List.mem_cons_self ..)), comeN_all l now (fun d hd => h d (List.mem_cons_of_mem _ hd))]
    rfl

theorem body_lt {w : World} {v : Value} {bs : List Int} (h : BodyAt w v bs) (hne : bs ≠ []) : ∀ g, v.ownBlock = some g → g < w.heap.size := by
  rcases h with ⟨x, c, e, _, h⟩ | ⟨g, o, c, rfl, l1, l2, l3, b1, b2⟩
  · exact absurd h hne
  · intro g' e
    have : g = g' := by simpa [Value.ownBlock] using e
    subst this
    exact b1

set_option maxHeartbeats 16000000 in
theorem walkN (x : Option Addr) (c : Nat) (l : List PutP) (hl9 : l.length ≤ 9223372036854775807) (w : World) (hP : PutsRow w x l) :
    Calls Try.prog 5 #[.slice x l.length c] w fun e w' => e = .returned (.bool true) ∧ Below w.heap.size w w' := by
  obtain ⟨i1, hi1, hzz1, hs1, hbb1⟩ := info_parts (P := Try.prog) (e := 44) (z := .slice none 0 0) (size := 1) (bytes := 24) (by kernel_rfl)
  have HP := Lib.hid hP
  have HW : Hid (∀ d ∈ l, 0 ≤ d.wait ∧ d.wait ≤ 4294967295) := fun d hd => (hP.2 d hd).wait
  obtain ⟨n, hn⟩ : ∃ n, l.length = n := ⟨_, rfl⟩
  have HN := Lib.hid hn
  rw [hn] at hl9 ⊢
  have hnI : (n : Int) ≤ 9223372036854775807 := by omega
  clear hP hn
  go_enter Try.func5, Try.ntmps5
  go_wp2_with fail
  ((refine (pNew (fun _ => False) none 0 [] (fun _ => rfl) (by simp) w (fun _ h => h.elim) (.inl rfl)).mono ?_); rintro e' w2 ⟨P, xf, cf, rfl, b2, hPw, PA⟩)
  have HPA := Lib.hid PA
  clear PA
  go_wp2_with fail
  ((with_reducible refine (alivePath _).mono ?_); rintro e' w3 ⟨rfl, b3⟩)
  have c3 := b2.trans (b3.mono b2.size)
  by_cases hc : 200 < n
  · have d1 : decide ((200 : Int) < (n : Int)) = true := decide_eq_true (by omega)
    go_wp2_with fail
    ((with_reducible refine (alivePath _).mono ?_); rintro e' wB ⟨rfl, bB⟩)
    go_wp2_with fail
    go_ret
    exact ⟨rfl, c3.trans (bB.mono c3.size)⟩
  have d1 : decide ((200 : Int) < (n : Int)) = false := decide_eq_false (by omega)
  have hn200 : n ≤ 200 := by omega
  have PB := HPA.out.same (Chg.ofBelow b3)
  have HPB := Lib.hid PB
  clear HPA PB hc
  go_wp2_with fail
  go_loopw [4, 5, 26] (fun wv nv iv wr => ∃ (k : Nat) (vp : Value) (li : List Itm) (ms : Nat → Prop), iv = .int .i64 (k : Int) ∧ k ≤ n ∧ nv = .int .u64 (nowAt l k) ∧ Below w.heap.size w wr ∧ (∀ g, ms g → w.heap.size ≤ g) ∧ PipeAt wr ms P xf cf [] (k : Int) vp li ∧ li.map pr = preL l k ∧ wr.ownsRow w.heap.size 44 1 wv k ((l.take k).map (·.v)) ∧ (∀ g, wv.ownBlock = some g → ms g ∧ g ≠ P ∧ vp.ownBlock ≠ some g)) (fun _ _ iv _ => (n - Lib.intOf iv).toNat)
  case atStart => exact ⟨0, .slice none 0 0, [], _, rfl, Nat.zero_le _, rfl, c3, fun g h => h.elim (fun h => h.elim) (fun h => by rw [h]; exact hPw), HPB.out, rfl, World.ownsRow_nil _ _ _ _, fun g h => by cases h⟩
  case round =>
    obtain ⟨k, vp, li, ms, rfl, hk, rfl, hbel, hmsw, hpipe, hpre, hown, hwv⟩ := hrel
    have HB := Lib.hid hbel
    have HMS := Lib.hid hmsw
    have HPI := Lib.hid hpipe
    have HPRE := Lib.hid hpre
    have HOWN := Lib.hid hown
    have HWV := Lib.hid hwv
    have sW := hbel.size
    clear hbel hmsw hpipe hpre hown hwv
    by_cases hkn : k < n
    case neg =>
      have hke : k = n := by omega
      subst hke
      have dk : decide ((k : Int) < (k : Int)) = false := decide_eq_false (by omega)
      have hlik : li.length = k := by rw [← List.length_map (f := pr), HPRE.out, preL_len]
      have hb1 := nowAt_ge HW.out k
      have hat : ∀ d ∈ li, d.at_ ≤ nowAt l k ∧ d.bs.length ≤ 140737488351232 := fun d hd => by
        have hm : pr d ∈ preL l k := by rw [← HPRE.out]; exact List.mem_map.2 ⟨d, hd, rfl⟩
        refine ⟨preL_le HW.out k _ hm, ?_⟩
        have h2 : (pr d).2 ∈ (preL l k).map (·.2) := List.mem_map.2 ⟨_, hm, rfl⟩
        rw [preL_bs l k (by rw [HN.out]; exact Nat.le_refl _)] at h2
        obtain ⟨d', hd', e⟩ := List.mem_map.1 h2
        have := (HP.out.2 d' (List.mem_of_mem_take hd')).len
        rw [show d.bs = (pr d).2 from rfl, ← e]
        exact this
      have hbs : li.map (·.bs) = l.map (·.bs) := by
        have := preL_bs l k (by rw [HN.out]; exact Nat.le_refl _)
        rw [← HPRE.out, List.map_map, List.take_of_length_le (by rw [HN.out]; exact Nat.le_refl _)] at this
        exact this
      obtain ⟨xb, cb, rfl, RD⟩ := HPI.out.rd
      have F1 := pWaits P _ _ xb li.length cb (by omega) wr RD.row
      rw [hlik] at F1
      have F2 := pCome ms P _ _ xb cb li (nowAt l k) (by omega) (fun d hd => (hat d hd).2) wr HPI.out.msl RD
      rw [comeN_all li _ (fun d hd => (hat d hd).1), List.drop_length, List.take_length, hbs] at F2
      have HF2 := Lib.hid F2
      have HPW : Hid (w.heap.size ≤ P) := hPw
      clear F2 hat hbs hlik RD
      go_wp2_with fail
      ((refine F1.mono ?_); rintro e' w' ⟨rfl, rfl⟩)
      clear F1
      go_wp2_with fail
      ((refine HF2.out.mono ?_); rintro e' w5 ⟨v5, x5, c5, rfl, K5, RD5, L5⟩)
      have c5' : Below w.heap.size w w5 := HB.out.trans (K5.below sW (fun i h => by rw [h]; exact HPW.out))
      obtain ⟨y, yc, hv5, hy1, hy2, LA⟩ := L5.lst
      rw [List.length_map, HN.out] at hv5 hy1
      subst hv5
      have own5 := Chg.own HOWN.out K5 (fun g h e => (HWV.out g h).2.1 e)
      rw [List.take_of_length_le (by rw [HN.out]; exact Nat.le_refl _)] at own5
      have LW : ListO w5 w.heap.size (fun _ => False) u4 (l.map (·.bs)) := ⟨l.map (·.v), by simp, by rw [List.length_map, HN.out]; exact own5, fun i hi => by
        have hi' : i < l.length := by simpa using hi
        rw [List.getD_eq_getElem?_getD, List.getD_eq_getElem?_getD, List.getElem?_map, List.getElem?_map, List.getElem?_eq_getElem hi']
        have := HP.out.2 _ (List.getElem_mem hi')
        exact ⟨this.body.below c5', fun hne b e hm => hm.elim (fun h => h) (fun h => by
          have h1 := body_lt this.body hne b e
          have h2 := (own5.lt b h).1
          omega)⟩, fun u hu => by
        obtain ⟨d, hd, rfl⟩ := List.mem_map.1 hu
        obtain ⟨bx, bc, e⟩ := BodyAt.form (HP.out.2 d hd).body
        rw [e]
        rfl⟩
      obtain ⟨z, zc, hv6, hz1, hz2, LZ⟩ := LW.lst
      rw [List.length_map, HN.out] at hv6 hz1
      subst hv6
      have FS := rSameLists y z yc zc (l.map (·.bs)) (by rw [List.length_map, HN.out]; omega) (by rw [List.length_map, HN.out]; exact hy1) (by rw [List.length_map, HN.out]; exact hz1) w5 LA LZ
      rw [List.length_map, HN.out] at FS
      have HRD5 := Lib.hid RD5
      have HMS5 : Hid (MsL w5 ms) := fun g h => Nat.lt_of_lt_of_le (HPI.out.msl g h) K5.size
      have HPm : Hid (ms P) := RD5.mine
      clear HF2 LW own5 LZ LA L5 K5 RD5
      go_wp2_with fail
      ((refine FS.mono ?_); rintro e' w6 ⟨rfl, b6⟩)
      have c6 := c5'.trans (b6.mono c5'.size)
      have RD6 := HRD5.out.chg (ms0 := fun _ => False) (ms' := ms) (Chg.ofBelow b6) (fun h => h) (fun _ _ _ _ h => h) (fun _ _ h => h.elim) (fun _ _ h => h) HPm.out
      have F7 := pCome ms P _ _ x5 c5 [] 18446744073709551615 (by simp) (fun d hd => by cases hd) w6 (fun g h => Nat.lt_of_lt_of_le (HMS5.out g h) b6.size) RD6
      rw [show comeN [] 18446744073709551615 = 0 from rfl] at F7
      simp only [List.drop_zero, List.take_zero, List.map_nil] at F7
      clear FS RD6
      go_wp2_with fail
      ((refine F7.mono ?_); rintro e' w7 ⟨v7, x7, c7, rfl, K7, RD7, L7⟩)
      have c7' : Below w.heap.size w w7 := c6.trans (K7.below c6.size (fun i h => by rw [h]; exact HPW.out))
      obtain ⟨xl, cl, hv7, hcl1, hcl2, _⟩ := L7.lst
      simp only [List.length_nil] at hv7
      subst hv7
      clear F7
      go_wp2_with fail
      go_ret
      exact ⟨rfl, c7'⟩
    have dk : decide ((k : Int) < (n : Int)) = true := decide_eq_true (by omega)
    have hkI : (k : Int) < (n : Int) := by omega
    have hkl : k < l.length := by rw [HN.out]; exact hkn
    obtain ⟨g, o, rfl, hgl, hcell⟩ : ∃ g o, x = some ⟨g, o, none⟩ ∧ PutsAt w g o l := by
      rcases HP.out.1 with h | h
      · rw [h] at hkl; simp at hkl
      · exact h
    obtain ⟨d, hd⟩ : ∃ d, l.getD k zP = d := ⟨_, rfl⟩
    have hmem : d ∈ l := by rw [← hd, List.getD_eq_getElem?_getD, List.getElem?_eq_getElem hkl]; exact List.getElem_mem _
    have HOK := Lib.hid (HP.out.2 d hmem)
    obtain ⟨q0, q1, _⟩ := hcell k hkl
    rw [hd] at q0 q1
    obtain ⟨bx, bc, hdv⟩ := BodyAt.form HOK.out.body
    rw [hdv] at q0
    have p0 := (HB.out.cell (p := ⟨g, o + k * 3, none⟩) hgl).trans q0
    have p1 := (HB.out.cell (p := ⟨g, o + k * 3 + 1, none⟩) hgl).trans q1
    have HB0 : Hid (BodyAt w (.slice bx d.bs.length bc) d.bs) := by rw [← hdv]; exact HOK.out.body
    have HBF : Hid (BodyF wr ms (.slice bx d.bs.length bc) d.bs) := ⟨HB0.out.below HB.out, fun hne b e => fun hm => by
      have := body_lt HB0.out hne b e
      have := HMS.out b hm
      omega⟩
    have hwt := HOK.out.wait
    have hnow : nowAt l (k + 1) = nowAt l k + d.wait := by rw [← hd]; rfl
    have hb1 := nowAt_ge HW.out k
    have HBY := Lib.hid HOK.out.byte
    have HLB := Lib.hid HOK.out.len
    have HDV := Lib.hid hdv
    have HDD := Lib.hid hd
    have HCE := Lib.hid q0
    obtain ⟨D, hD⟩ : ∃ D, d.wait = D := ⟨_, rfl⟩
    obtain ⟨T, hT⟩ : ∃ T, nowAt l k = T := ⟨_, rfl⟩
    rw [hD] at p1 hwt
    rw [hT] at hb1
    rw [hT, hD] at hnow
    have HNOW := Lib.hid hnow
    have hw1 : IntKind.u64.wrap D = D := by rw [IntKind.wrap_u64]; omega
    have hw2 : IntKind.u64.wrap (T + D) = T + D := by rw [IntKind.wrap_u64]; omega
    have hWT : Hid (W64 (T + D)) := by unfold W64; exact ⟨by omega, by omega⟩
    have hlik : Hid (li.length = k) := by show li.length = k; rw [← List.length_map (f := pr), HPRE.out, preL_len]
    rw [hT]
    clear hD hT hnow hcell q0 q1 hdv hmem
    go_wp2_with fail
    ((refine (pPut ms P xf cf [] k vp li bx d.bs.length bc d.bs (T + D) HBY.out HLB.out hWT.out (fun d hd => by simp at hd) (by simp) (by omega) (by have := hlik.out; omega) wr HPI.out HBF.out).mono ?_); rintro e' w4 ⟨rfl, v4, l4, ms4, K4, o4, u4', d4, PA4, e4⟩)
    have HPW : Hid (w.heap.size ≤ P) := hPw
    have hvw : Hid (∀ g, vp.ownBlock = some g → w.heap.size ≤ g) := fun g h => HMS.out g (HPI.out.vms g h).1
    have c4 : Below w.heap.size w w4 := HB.out.trans (K4.below sW (fun i h => h.elim (fun h => by rw [h]; exact HPW.out) (fun h => hvw.out i h)))
    have own4 := Chg.own HOWN.out K4 (fun g h e => e.elim (fun e => (HWV.out g h).2.1 e) (fun e => (HWV.out g h).2.2 e))
    have hwlt : Hid (∀ g, u4.ownBlock = some g → w.heap.size ≤ g ∧ g < wr.heap.size) := fun g e => HOWN.out.lt g e
    have p4 := (c4.cell (p := ⟨g, o + k * 3, none⟩) hgl).trans HCE.out
    have s4 := K4.size
    have HK4 := Lib.hid K4
    have HO4 := Lib.hid o4
    have HU4 := Lib.hid u4'
    have HD4 := Lib.hid d4
    have HPA4 := Lib.hid PA4
    have HE4 := Lib.hid e4
    have HOW4 := Lib.hid own4
    have HC4 := Lib.hid c4
    clear K4 o4 u4' d4 PA4 e4 own4 c4 p0 p1
    go_wp2_with (at_builtin; refine wpList_append_any _ rfl (.tmp 45) (.tmp 51) 43 rfl w.heap.size 44 i1 (.slice none 0 0) 1 24 Try.underlying43 hi1 hzz1 hs1 hbb1 rfl (by decide) u4 k ((l.take k).map (·.v)) rfl (HOW4.out.alloc _) (some ⟨w4.heap.size, 0, none⟩) 1 1 [.slice bx d.bs.length bc] rfl rfl (.inr ⟨_, rfl, newsOf _ _ _⟩) (fun u hu => by simp at hu; subst hu; rfl) (by simp [maxLen]; omega) (by omega) (by simp; omega) ?_; intro v7 w7 own7 hgrow7 hat7)
    go_roundw
    case rel =>
      have KG : Chg (fun i => u4.ownBlock = some i) w4 w7 := (Chg.alloc (ms := fun i => u4.ownBlock = some i) _ _).trans (Chg.ofGrown hgrow7) (fun i h => .inl h)
      have h7 : ∀ g, v7.ownBlock = some g → u4.ownBlock = some g ∨ w4.heap.size ≤ g := fun g h => by
        rcases hat7 with e | e
        · exact .inl (by rw [← e]; exact h)
        · rw [e] at h
          simp at h
          exact .inr (by omega)
      refine ⟨k + 1, v4, l4, fun g => ms4 g ∨ v7.ownBlock = some g, by simp, by omega, by rw [HNOW.out], HC4.out.trans (KG.below HC4.out.size (fun i h => (hwlt.out i h).1)), ?_, ?_, ?_, ?_, ?_⟩
      · intro g h
        rcases h with h | h
        · rcases HD4.out g h with h | h
          · exact HMS.out g h
          · omega
        · rcases h7 g h with h | h
          · exact (hwlt.out g h).1
          · omega
      · have := HPA4.out.chg KG (ms' := fun g => ms4 g ∨ v7.ownBlock = some g) (fun h => (HWV.out P h).2.1 rfl) (fun g h h2 => by
          rcases HO4.out g h with h | h
          · exact (HWV.out g h2).2.2 h
          · have := (hwlt.out g h2).2; omega) (fun i _ h => HU4.out i (HWV.out i h).1) (fun i hi h => h.elim (fun h => h) (fun h => by
          rcases h7 i h with h | h
          · exact HU4.out i (HWV.out i h).1
          · omega)) (fun i h => .inl h) (fun g h => by
          rcases h with h | h
          · exact Nat.lt_of_lt_of_le (HPA4.out.msl g h) KG.size
          · exact (own7.lt g h).2)
        simpa using this
      · rw [HE4.out, HPRE.out, putS_clean k _ _ hWT.out _ (fun p hp => by
          have := preL_le HW.out k p hp
          have := HNOW.out
          have := hwt
          have h1 : nowAt l (k + 1) = nowAt l k + (l.getD k zP).wait := rfl
          have h2 := getW HW.out k
          omega)]
        rw [preL, HNOW.out, HDD.out]
      · rw [List.take_add_one, List.getElem?_eq_getElem (by rw [HN.out]; exact hkn), List.map_append]
        have : (l[k]'(by rw [HN.out]; exact hkn)) = d := by
          have := HDD.out
          rwa [List.getD_eq_getElem?_getD, List.getElem?_eq_getElem (by rw [HN.out]; exact hkn)] at this
        simp only [this, Option.toList_some, List.map_cons, List.map_nil, HDV.out]
        exact own7
      · intro g h
        refine ⟨.inr h, ?_, ?_⟩
        · rcases h7 g h with h | h
          · exact (HWV.out g h).2.1
          · have := HPA4.out.row.lt
            omega
        · intro h2
          rcases h7 g h with h | h
          · rcases HO4.out g h2 with h3 | h3
            · exact (HWV.out g h).2.2 h3
            · have := (hwlt.out g h).2; omega
          · have := HPA4.out.msl g (HPA4.out.vms g h2).1
            omega
    case measure =>
      simp [Lib.intOf]
      omega

theorem walk (a0 : Option Addr) (len0 cap0 : Nat) (w : World) (h0 : ∃ l : List PutP, l.length = len0 ∧ PutsRow w a0 l ∧ len0 ≤ 9223372036854775807) :
    Calls Try.prog 5 #[.slice a0 len0 cap0] w fun e w' => e = .returned (.bool true) ∧ Below w.heap.size w w' := by
  obtain ⟨l, rfl, hP, h9⟩ := h0
  exact walkN a0 cap0 l h9 w hP

/-! ### the row's step -/
set_option maxRecDepth 100000 in
theorem lifted (os : Os) (started : os.Started) (H : Type) (enc : TypeId × Value → H) :
    ReturnsInHanded {} Try.checked os 5 .any (Rows.pathCleanSpec.pre6 enc Try.prog Try.f5 Rows.pathCleanRow.domain false) (Rows.pathCleanSpec.post enc Try.prog Try.f5 false true false false) := by
  refine returnsInHanded_of_change_sized (C := Try.checked) own started (by kernel_rfl) Try.func5
    (ChangeSpec.witness6 (enc := enc) (C := Try.checked) false ⟨#[], #[.slice none 0 0], []⟩ 8 (by kernel_rfl) (by kernel_rfl) (by kernel_rfl) (by kernel_rfl)) ?_
  intro W base args ds gs before hval0 hW hcnd hsz0 _
  have hsz : (DataW.weightsEach Try.prog (Try.f5.params.toList ++ Rows.pathCleanSpec.plain.varTypes Try.prog) (ds ++ gs)).all (· ≤ reachBytes) = true := hsz0
  clear hsz0
  have hval : ∀ (j : Nat) t v, Try.f5.params[j]? = some t → args[j]? = some v → Value.okWide Try.prog W .any base t v := hval0
  have hW' := hW
  obtain ⟨p, q, hA0, hV, rfl, hfz, hnd⟩ := hW
  have hA : DataW.TrodAll enc Try.prog W 0 (fun _ => true) true Try.f5.params.toList args.toList ds p := hA0
  rw [Try.params5] at hA hval hsz
  obtain ⟨v0, vs0, d0, ds0, p0, q0, hargs, rfl, rfl, h0, r0⟩ := trodAll_cons hA
  obtain ⟨rfl, rfl, rfl⟩ := trodAll_nil r0
  obtain rfl : args = #[v0] := by cases args; simp_all
  obtain ⟨rfl, rfl⟩ := trodVars_none hV
  obtain ⟨a0, len0, cap0, rfl⟩ := okWide_slice Try.underlying40 (hval 0 40 v0 rfl rfl)
  have k0 := h0
  have lt0 : ∀ x ∈ p0, x.block < W.heap.size := by obtain ⟨m, hm⟩ := k0; exact DataW.trod_lt m _ _ _ hm
  have w0 : ∃ l : List PutP, l.length = len0 ∧ PutsRow W a0 l ∧ len0 ≤ 9223372036854775807 := by
    obtain ⟨fuel, hf⟩ := h0
    exact puts_of (by simpa [Value.cells] using hf) (sized_one hsz (j := 0) (t := 40) rfl rfl)
  clear hA0 hval0
  refine (walk a0 len0 cap0 W w0).mono fun e W' ⟨he, bel⟩ => ?_
  subst he
  exact ⟨_, rfl, _, _, _, [], _, [], hW', trodAll_mk1 (shut_bool Try.underlying4 _), (trodAll_cons_mk (Below.trod laidOut (by kernel_rfl) (of_decide_eq_true (by kernel_rfl)) k0 bel lt0) trodAll_mk0), rfl, bel.frame _, fun h => by cases h⟩

theorem over : Rows.pathCleanRow.holds Try.pinned (OpenSpec.ofChange Rows.pathCleanSpec) :=
  OpenClaim.holds_of_wide 5 Try.f5 rfl rfl rfl rfl rfl rfl rfl ⟨rfl, rfl, rfl, rfl, rfl⟩ rfl rfl rfl rfl rfl (by kernel_rfl) Try.func5 (by kernel_rfl)
    (of_decide_eq_true (by kernel_rfl)) (by unfold Func.isWrapper; first | (rw [if_pos (by decide +kernel)]; kernel_rfl) | (rw [if_neg (by decide +kernel)]; exact ⟨rfl, rfl⟩))
    (fun os started H enc _ => lifted os started H enc)

/-- THE STATEMENT -/
theorem proved : Rows.PathCleanSaid := over
end Go.Proofs.Ytikkmdbaekdolaa.pathClean
