/- package path: Come. -/
import Derived.Test.YtikkmdbaekdolaaPath3
namespace Go.Proofs.Ytikkmdbaekdolaa
open Go.RowKit Go.Lib
set_option linter.unusedVariables false
set_option maxRecDepth 100000

/-- how many come by now -/
def comeN : List Itm → Int → Nat
  | [], _ => 0
  | d :: l, now => if d.at_ ≤ now then comeN l now + 1 else 0
theorem comeN_le : ∀ (l : List Itm) (now : Int), comeN l now ≤ l.length
  | [], _ => Nat.le_refl _
  | d :: l, now => by
    unfold comeN
    split
    · have := comeN_le l now
      simp
      omega
    · simp
/-- a way, to be read -/
structure PipeRd (w : World) (ms : Nat → Prop) (P : Nat) (f0 : Value) (n : Int) (x : Option Addr) (c : Nat) (l : List Itm) : Prop where
  row : RowIs w P 117 #[f0, .int .i64 n, .slice x l.length c]
  mine : ms P
  it : IRow w x l
  cap : l.length ≤ c ∧ c ≤ 9223372036854775807
  xms : ∀ g o, l ≠ [] → x = some ⟨g, o, none⟩ → g ≠ P
  its : ∀ d ∈ l, W64 d.at_ ∧ BodyF w ms d.v d.bs
theorem PipeAt.rd {w : World} {ms : Nat → Prop} {P : Nat} {xf : Option Addr} {cf : Nat} {fl : List FateP} {n : Int} {v : Value} {l : List Itm} (h : PipeAt w ms P xf cf fl n v l) : ∃ x c, v = .slice x l.length c ∧ PipeRd w ms P (.slice xf fl.length cf) n x c l := by
  have hown := h.own
  obtain ⟨x, c, rfl, hI⟩ := itOfOwn rfl h.own
  refine ⟨x, c, rfl, h.row, h.mine, hI, ?_, ?_, fun d hd => ⟨(h.its d hd).1, (h.its d hd).2.1⟩⟩
  · obtain ⟨_, ⟨e, h2⟩ | ⟨g, c', cur, e, _, _, hc, hm, _⟩⟩ := hown
    · injection e with e1 e2 e3
      exact ⟨by omega, by omega⟩
    · injection e with e1 e2 e3
      unfold maxLen at hm
      exact ⟨by omega, by omega⟩
  · intro g o _ e
    subst e
    exact (h.vms g rfl).2
theorem PipeRd.chg {w w' : World} {ms ms0 ms' : Nat → Prop} {P : Nat} {f0 : Value} {n : Int} {x : Option Addr} {c : Nat} {l : List Itm} (h : PipeRd w ms P f0 n x c l) (k : Chg ms0 w w') (hP : ¬ ms0 P) (hx : ∀ g o, l ≠ [] → x = some ⟨g, o, none⟩ → ¬ ms0 g) (h0 : ∀ i, i < w.heap.size → ms0 i → ms i) (h1 : ∀ i, i < w.heap.size → ms' i → ms i) (h2 : ms' P) : PipeRd w' ms' P f0 n x c l where
  row := k.row h.row hP
  mine := h2
  it := by
    rcases h.it with e | ⟨g, o, e, hl, hc⟩
    · exact .inl e
    · by_cases he : l = []
      · exact .inl he
      have hg := hx g o he e
      exact .inr ⟨g, o, e, Nat.lt_of_lt_of_le hl k.size, fun i hi => ⟨(k.cell hl hg).trans (hc i hi).1, (k.cell hl hg).trans (hc i hi).2⟩⟩
  cap := h.cap
  xms := h.xms
  its := fun d hd => ⟨(h.its d hd).1, (h.its d hd).2.chg k h0 h1⟩

/-- how many items a way holds, as it lies there -/
def lenAt (w : World) (P : Nat) : Nat := match w.cell? ⟨P, 2, none⟩ with | some (.slice _ n _) => n | _ => 0

/-- a list of bytes in a row of the call's own -/
structure ListO (w : World) (B : Nat) (ms : Nat → Prop) (v : Value) (L : List (List Int)) : Prop where
  own : ∃ us : List Value, us.length = L.length ∧ w.ownsRow B 44 1 v us.length us ∧ (∀ i, i < L.length → BodyF w (fun g => ms g ∨ v.ownBlock = some g) (us.getD i undef) (L.getD i [])) ∧ ∀ u ∈ us, u.oneCell' = true

/-- the same row, further on -/
def BlkOf (x x' : Option Addr) (l : List Itm) : Prop := ∀ g o, l ≠ [] → x' = some ⟨g, o, none⟩ → ∃ o', x = some ⟨g, o', none⟩

set_option maxHeartbeats 16000000 in
theorem pComeX (ms : Nat → Prop) (P : Nat) (f0 : Value) (n : Int) (x : Option Addr) (c : Nat) (l : List Itm) (now : Int) (hl : l.length ≤ 1000) (hbs : ∀ d ∈ l, d.bs.length ≤ 140737488351232) (w : World) (hms : MsL w ms) (hA : PipeRd w ms P f0 n x c l) :
    Calls Try.prog 28 #[.pointer (some ⟨P, 0, none⟩), .int .u64 now] w fun e w' => ∃ v x' c', e = .returned v ∧ Chg (fun i => i = P) w w' ∧ PipeRd w' ms P f0 n x' c' (l.drop (comeN l now)) ∧ ListO w' w.heap.size ms v ((l.take (comeN l now)).map (·.bs)) ∧ BlkOf x x' (l.drop (comeN l now)) := by
  obtain ⟨i1, hi1, hzz1, hs1, hbb1⟩ := info_parts (P := Try.prog) (e := 5) (z := .int .u8 0) (size := 1) (bytes := 1) (by kernel_rfl)
  obtain ⟨i2, hi2, hzz2, hs2, hbb2⟩ := info_parts (P := Try.prog) (e := 44) (z := .slice none 0 0) (size := 1) (bytes := 24) (by kernel_rfl)
  have HA := Lib.hid hA
  have HMS := Lib.hid hms
  have HBS := Lib.hid hbs
  have lP := hA.row.lt
  have HP := Lib.hid hA.mine
  clear hA hbs hms
  go_enter Try.func28, Try.ntmps28
  go_wp2_with fail
  go_loopw [5] (fun ov wr => ∃ (j : Nat) (xj : Option Addr) (cj : Nat), j ≤ l.length ∧ comeN l now = j + comeN (l.drop j) now ∧ Chg (fun i => i = P) w wr ∧ PipeRd wr (fun g => ms g ∨ ov.ownBlock = some g) P f0 n xj cj (l.drop j) ∧ ListO wr w.heap.size ms ov ((l.take j).map (·.bs)) ∧ ∀ g o, l.drop j ≠ [] → xj = some ⟨g, o, none⟩ → ∃ o', x = some ⟨g, o', none⟩) (fun _ wr => lenAt wr P)
  case atStart => exact ⟨0, x, c, Nat.zero_le _, by simp, Chg.refl _ _, HA.out.chg (Chg.refl (fun _ => False) _) (fun h => h) (fun _ _ _ _ h => h) (fun _ _ h => h.elim) (fun i _ h => h.elim (fun h => h) (fun h => by cases h)) (.inl HP.out), ⟨[], rfl, World.ownsRow_nil _ _ _ _, fun i hi => absurd hi (by simp), fun u hu => by cases hu⟩, fun g o _ e => ⟨o, e⟩⟩
  case round =>
    obtain ⟨j, xj, cj, hj, hcome, hchg, hpipe, hout, hxj⟩ := hrel
    have HC := Lib.hid hcome
    have HCH := Lib.hid hchg
    have HPI := Lib.hid hpipe
    have HO := Lib.hid hout
    have HXJ := Lib.hid hxj
    have hrow := hpipe.row
    have lPr := hrow.lt
    have p2 := hrow.cell 2
    simp only [List.getElem?_toArray, List.getElem?_cons_succ, List.getElem?_cons_zero] at p2
    have hml : lenAt wr P = (l.drop j).length := by unfold lenAt; rw [p2]
    have HML := Lib.hid hml
    clear hcome hchg hpipe hout hxj hml
    have hdone : comeN (l.drop j) now = 0 → comeN l now = j := fun h => by rw [HC.out, h]; rfl
    have HDO := Lib.hid hdone
    clear hdone
    have back : Hid (comeN (l.drop j) now = 0 → ∃ x' c', Chg (fun i => i = P) w wr ∧ PipeRd wr ms P f0 n x' c' (l.drop (comeN l now)) ∧ ListO wr w.heap.size ms u5 ((l.take (comeN l now)).map (·.bs)) ∧ BlkOf x x' (l.drop (comeN l now))) := fun h => by
      rw [HDO.out h]
      exact ⟨xj, cj, HCH.out, HPI.out.chg (Chg.refl (fun _ => False) _) (fun h => h) (fun _ _ _ _ h => h) (fun _ _ h => h.elim) (fun i _ h => .inl h) HP.out, HO.out, HXJ.out⟩
    obtain ⟨l', hl'⟩ : ∃ l', l.drop j = l' := ⟨_, rfl⟩
    have HL := Lib.hid hl'
    rw [hl'] at p2 hrow
    clear hl'
    rcases l' with _ | ⟨d, rest⟩
    · have hz : comeN (l.drop j) now = 0 := by rw [HL.out]; rfl
      have HB := Lib.hid (back.out hz)
      simp only [List.length_nil] at p2
      clear hz back
      go_wp2_with fail
      go_ret
      obtain ⟨x', c', h1, h2, h3, h4⟩ := HB.out
      first | exact ⟨u5, x', c', rfl, h1, h2, h3, h4⟩ | exact ⟨u5, rfl, h1, x', c', h2, h3, h4⟩
    have hlen : (d :: rest).length = l.length - j := by rw [← HL.out, List.length_drop]
    obtain ⟨m, hm⟩ : ∃ m, rest.length = m := ⟨_, rfl⟩
    simp only [List.length_cons, hm] at p2 hrow hlen
    have hcap := HPI.out.cap
    rw [HL.out] at hcap
    simp only [List.length_cons, hm] at hcap
    obtain ⟨g, o, rfl, hgl, hcells⟩ : ∃ g o, xj = some ⟨g, o, none⟩ ∧ ItAt wr g o (d :: rest) := by
      have h := HPI.out.it
      rw [HL.out] at h
      rcases h with h | h
      · cases h
      · exact h
    obtain ⟨q0, q1⟩ := hcells 0 (by simp)
    simp only [List.getD_cons_zero, Nat.zero_mul, Nat.add_zero] at q0 q1
    have hmI : (m : Int) + 1 ≤ (cj : Int) := by omega
    have hm0 : (0 : Int) < (m : Int) + 1 := by omega
    have hm1 : (1 : Int) ≤ (m : Int) + 1 := by omega
    have hjl : j < l.length := by omega
    have hm1000 : m ≤ 1000 := by omega
    have HMM := Lib.hid hm
    have HCE := Lib.hid hcells
    clear hlen hm
    have sW := HCH.out.size
    by_cases hab : d.at_ ≤ now
    case neg =>
      have hd : decide (d.at_ ≤ now) = false := decide_eq_false hab
      have hz : comeN (l.drop j) now = 0 := by rw [HL.out]; unfold comeN; rw [if_neg hab]
      have HB := Lib.hid (back.out hz)
      generalize d.at_ = da at q0 hab hd
      clear hz back hab q1
      go_wp2_with fail
      go_ret
      obtain ⟨x', c', h1, h2, h3, h4⟩ := HB.out
      first | exact ⟨u5, x', c', rfl, h1, h2, h3, h4⟩ | exact ⟨u5, rfl, h1, x', c', h2, h3, h4⟩
    have hd : decide (d.at_ ≤ now) = true := decide_eq_true hab
    have hcm : comeN l now = j + 1 + comeN rest now := by rw [HC.out, HL.out, show comeN (d :: rest) now = comeN rest now + 1 from if_pos hab]; omega
    have HCM := Lib.hid hcm
    have hdd : l.getD j zI = d ∧ l.drop (j + 1) = rest := by
      rw [List.drop_eq_getElem_cons hjl] at HL
      have h := HL.out
      injection h with h1 h2
      exact ⟨by rw [List.getD_eq_getElem?_getD, List.getElem?_eq_getElem hjl]; exact h1, h2⟩
    have hmem : d ∈ l := by
      rw [← hdd.1, List.getD_eq_getElem?_getD, List.getElem?_eq_getElem hjl]
      exact List.getElem_mem _
    have hits := HPI.out.its d (by rw [HL.out]; exact List.mem_cons_self ..)
    obtain ⟨bx, bc, hdv⟩ := BodyAt.form hits.2.at
    rw [hdv] at q1
    have HBF : Hid (BodyF wr (fun g => ms g ∨ u5.ownBlock = some g) (.slice bx d.bs.length bc) d.bs) := by rw [← hdv]; exact hits.2
    have HLB := Lib.hid (HBS.out d hmem)
    have hbI : d.bs.length ≤ 140737488351232 := HBS.out d hmem
    have HDD := Lib.hid hdd
    obtain ⟨us, hus, hown, hbod, hone⟩ := HO.out.own
    have HUS := Lib.hid hus
    have HOWN := Lib.hid hown
    have HBOD := Lib.hid hbod
    have HONE := Lib.hid hone
    have hul : us.length ≤ 1000 := by rw [hus, List.length_map, List.length_take]; omega
    have hob : Hid (∀ g, u5.ownBlock = some g → w.heap.size ≤ g ∧ g < wr.heap.size) := fun g e => hown.lt g e
    have hS : Hid (∀ g, (ms g ∨ u5.ownBlock = some g) → g < wr.heap.size) := fun g h => h.elim (fun h => Nat.lt_of_lt_of_le (HMS.out g h) sW) (fun h => (hown.lt g h).2)
    obtain ⟨oX, hxX⟩ := HXJ.out g o (by rw [HL.out]; simp) rfl
    have hlne : l ≠ [] := fun h => by rw [h] at hmem; cases hmem
    have hgw : g < w.heap.size := by
      rcases HA.out.it with h | ⟨g', o', h, hg, _⟩
      · exact absurd h hlne
      · rw [hxX] at h
        cases h
        exact hg
    have HXX : Hid (∃ o', x = some (⟨g, o', none⟩ : Addr)) := ⟨oX, hxX⟩
    clear hxX hlne
    generalize hda : d.at_ = da at q0 hab hd
    clear hab hcm hdd hits hdv hus hown hbod hone hmem back hda hcells
    go_wp2_with (first | (at_builtin; (refine wpList_append_any _ rfl (.const (.slice none 0 0)) (.tmp 32) 44 rfl wr.heap.size 5 i1 (.int .u8 0) 1 1 Try.underlying44 hi1 hzz1 hs1 hbb1 rfl (by decide) (.slice none 0 0) 0 [] rfl (World.ownsRow_nil _ _ _ _) bx d.bs.length bc (d.bs.map (.int .u8)) rfl (by simp) (bodySrc HBF.out.at).2 (oneCell_bytes _) (by simp [maxLen]; omega) (by omega) (Nat.le_refl _) ?_; intro v6 w6 own6 hgrow6 hat6; simp only [Nat.zero_add, List.nil_append] at own6; obtain ⟨x6, c6, rfl, BF6⟩ := bodyOfOwn (ms := fun g => ms g ∨ u5.ownBlock = some g) own6 hS.out)) | (at_builtin; (refine wpList_append_any _ rfl (.tmp 25) (.tmp 34) 43 rfl w.heap.size 44 i2 (.slice none 0 0) 1 24 Try.underlying43 hi2 hzz2 hs2 hbb2 rfl (by decide) u5 us.length us rfl (Chg.own (ms := fun _ => False) HOWN.out ((Chg.ofGrown hgrow6).mono (fun i _ e => by cases e)) (fun _ _ h => h) |>.alloc _) (some ⟨w6.heap.size, 0, none⟩) 1 1 [.slice x6 d.bs.length c6] rfl rfl (.inr ⟨_, rfl, newsOf _ _ _⟩) (fun u hu => by simp at hu; subst hu; rfl) (by simp [maxLen]; omega) (by omega) (by have := hgrow6.size; simp; omega) ?_; intro v7 w7 own7 hgrow7 hat7; have K6 : Chg (fun _ => False) wr w6 := (Chg.ofGrown hgrow6).mono (fun i _ e => by cases e); have rP7 := (Chg.ofGrown hgrow7).row ((K6.trans (Chg.alloc (ms := fun _ => False) _ _) (fun _ h => .inl h)).row hrow (fun h => h)) (fun e => by have := (hob.out P e).1; omega); have y2 := rP7.cell 2; simp at y2; have yf := RowIs.fz rP7 2; have lP7 := rP7.lt)))
    go_roundw
    case rel =>
      obtain ⟨X, hX⟩ : ∃ X, X = (if cj = 1 then some (⟨g, o, none⟩ : Addr) else some ⟨g, o + 2, none⟩) := ⟨_, rfl⟩
      rw [← hX]
      obtain ⟨w8, hw8⟩ : ∃ w8, w8 = w7.setCell ⟨P, 2, none⟩ (.slice X m (cj - 1)) := ⟨_, rfl⟩
      rw [← hw8]
      have KA : Chg (fun i => u5.ownBlock = some i) w6 w7 := (Chg.alloc (ms := fun i => u5.ownBlock = some i) _ _).trans (Chg.ofGrown hgrow7) (fun i h => .inl h)
      have K8 : Chg (fun i => i = P) w7 w8 := by rw [hw8]; exact Chg.setCell _ _ _ _
      have KB : Chg (fun i => i = P ∨ u5.ownBlock = some i) w6 w8 := (KA.mono (fun i _ h => .inr h)).trans K8 (fun i h => .inl (.inl h))
      have KT : Chg (fun i => i = P ∨ u5.ownBlock = some i) wr w8 := (K6.mono (fun i _ h => h.elim)).trans KB (fun i h => .inl h)
      have r8 : RowIs w8 P 117 #[f0, .int .i64 n, .slice X m (cj - 1)] := by rw [hw8]; exact heap_set_self w7 P 2 _ _ _ _ rP7
      have h7 : ∀ i, i < wr.heap.size → (ms i ∨ v7.ownBlock = some i) → (ms i ∨ u5.ownBlock = some i) := fun i hi h => h.elim .inl (fun h => by
        rcases hat7 with e | e
        · exact .inr (by rw [← e]; exact h)
        · rw [e] at h
          have hz := K6.size
          simp at h
          omega)
      have h6 : ∀ i, i < w6.heap.size → (ms i ∨ v7.ownBlock = some i) → (ms i ∨ u5.ownBlock = some i) := fun i hi h => h.elim .inl (fun h => by
        rcases hat7 with e | e
        · exact .inr (by rw [← e]; exact h)
        · rw [e] at h
          simp at h
          omega)
      have hP0 : ∀ (k : Nat), ∀ i, i < k → (i = P ∨ u5.ownBlock = some i) → (ms i ∨ u5.ownBlock = some i) := fun k i _ h => h.elim (fun h => .inl (by rw [h]; exact HP.out)) .inr
      have hgP : g ≠ P := HPI.out.xms g o (by rw [HL.out]; simp) rfl
      have hgn : ¬ (g = P ∨ u5.ownBlock = some g) := fun h => h.elim hgP (fun h => by have := (hob.out g h).1; omega)
      refine ⟨j + 1, X, cj - 1, by omega, by rw [HCM.out, HDD.out.2], HCH.out.trans KT (fun i h => h.elim .inl (fun h => .inr (hob.out i h).1)), ?_, ?_, ?_⟩
      · rw [HDD.out.2]
        refine { row := by rw [HMM.out]; exact r8, mine := .inl HP.out, it := ?_, cap := by rw [HMM.out]; omega, xms := ?_, its := ?_ }
        · by_cases he : rest = []
          · exact .inl he
          · have hrl : 0 < rest.length := List.length_pos_iff.mpr he
            have hc1 : ¬ cj = 1 := by have := HMM.out; omega
            rw [if_neg hc1] at hX
            refine .inr ⟨g, o + 2, hX, Nat.lt_of_lt_of_le hgl KT.size, fun i hi => ?_⟩
            obtain ⟨e1, e2⟩ := HCE.out (i + 1) (by simp; omega)
            rw [List.getD_cons_succ] at e1 e2
            rw [show o + 2 + i * 2 = o + (i + 1) * 2 by omega]
            exact ⟨(KT.cell hgl hgn).trans e1, (KT.cell hgl hgn).trans e2⟩
        · intro g' o' _ e
          rw [hX] at e
          split at e <;> (cases e; exact hgP)
        · intro d' hd'
          have := HPI.out.its d' (by rw [HL.out]; exact List.mem_cons_of_mem _ hd')
          exact ⟨this.1, this.2.chg KT (hP0 _) h7⟩
      · have htk : (l.take (j + 1)).map (·.bs) = (l.take j).map (·.bs) ++ [d.bs] := by
          rw [List.take_add_one, List.getElem?_eq_getElem hjl, List.map_append]
          have := HDD.out.1
          rw [List.getD_eq_getElem?_getD, List.getElem?_eq_getElem hjl] at this
          simp at this
          simp [this]
        rw [htk]
        have hul2 : us.length = ((l.take j).map (·.bs)).length := HUS.out
        refine ⟨us ++ [.slice x6 d.bs.length c6], by simp [hul2], ?_, fun i hi => ?_, fun u hu => ?_⟩
        · rw [List.length_append]
          exact K8.own own7 (fun g' e e2 => by
            have hl7 := (own7.lt g' e).1
            omega)
        · by_cases hi2 : i < us.length
          · rw [List.getD_eq_getElem?_getD, List.getElem?_append_left hi2, ← List.getD_eq_getElem?_getD, List.getD_eq_getElem?_getD (l := _ ++ _), List.getElem?_append_left (by omega), ← List.getD_eq_getElem?_getD]
            exact (HBOD.out i (by omega)).chg KT (hP0 _) h7
          · have hi3 : i = us.length := by simp at hi; simp at hul2; omega
            subst hi3
            rw [List.getD_eq_getElem?_getD, List.getElem?_append_right (Nat.le_refl _), Nat.sub_self, List.getD_eq_getElem?_getD (l := _ ++ _), List.getElem?_append_right (by omega), hul2, Nat.sub_self]
            exact BF6.chg KB (hP0 _) h6
        · simp only [List.mem_append, List.mem_singleton] at hu
          rcases hu with hu | rfl
          · exact HONE.out u hu
          · rfl
      · intro g' o' _ e
        rw [hX] at e
        split at e <;> (cases e; exact HXX.out)
    case measure =>
      have r8 : RowIs (w7.setCell ⟨P, 2, none⟩ (.slice (if cj = 1 then some (⟨g, o, none⟩ : Addr) else some ⟨g, o + 2, none⟩) m (cj - 1))) P 117 #[f0, .int .i64 n, .slice (if cj = 1 then some (⟨g, o, none⟩ : Addr) else some ⟨g, o + 2, none⟩) m (cj - 1)] := heap_set_self w7 P 2 _ _ _ _ rP7
      have c8 := r8.cell 2
      simp only [List.getElem?_toArray, List.getElem?_cons_succ, List.getElem?_cons_zero] at c8
      rw [HML.out, HL.out, List.length_cons, HMM.out]
      unfold lenAt
      rw [c8]
      simp

theorem pCome (ms : Nat → Prop) (P : Nat) (f0 : Value) (n : Int) (x : Option Addr) (c : Nat) (l : List Itm) (now : Int) (hl : l.length ≤ 1000) (hbs : ∀ d ∈ l, d.bs.length ≤ 140737488351232) (w : World) (hms : MsL w ms) (hA : PipeRd w ms P f0 n x c l) :
    Calls Try.prog 28 #[.pointer (some ⟨P, 0, none⟩), .int .u64 now] w fun e w' => ∃ v x' c', e = .returned v ∧ Chg (fun i => i = P) w w' ∧ PipeRd w' ms P f0 n x' c' (l.drop (comeN l now)) ∧ ListO w' w.heap.size ms v ((l.take (comeN l now)).map (·.bs)) := (pComeX ms P f0 n x c l now hl hbs w hms hA).mono fun e w' ⟨v, x', c', h1, h2, h3, h4, _⟩ => ⟨v, x', c', h1, h2, h3, h4⟩

end Go.Proofs.Ytikkmdbaekdolaa
