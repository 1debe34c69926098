/- the reference's AddSpan and LastSpans. -/
import Derived.Test.YtofggpmllfhgaaaSpanAdd
import Derived.Test.YtofggpmllfhgaaaAckDec
import Derived.Test.YtofggpmllfhgaaaAckRow
import Derived.StillTailTactics
import Derived.Deep.CutBlock
import Derived.Deep.DeepCutAuto
namespace Go.Proofs.Ytofggpmllfhgaaa
open Go.RowKit Go.Lib
set_option linter.unusedVariables false
set_option maxRecDepth 100000

/-- a row's value: nil, or in a block -/
def RowV (w : World) (v : Value) (l : List (Int × Int)) : Prop :=
  (v = .slice none 0 0 ∧ l = []) ∨ ∃ g o c, v = .slice (some ⟨g, o, none⟩) l.length c ∧ l.length ≤ c ∧ c ≤ 9223372036854775807 ∧ SpansAt w g o l
theorem RowV.below {w w' : World} {v : Value} {l : List (Int × Int)} (h : RowV w v l) (hb : Below w.heap.size w w') : RowV w' v l := by
  rcases h with h | ⟨g, o, c, h1, h2, h3, h4⟩
  · exact .inl h
  · exact .inr ⟨g, o, c, h1, h2, h3, h4.below hb⟩
theorem RowV.ofOwn {w : World} {B : Nat} {v : Value} {l : List (Int × Int)} (h : w.ownsRow B 84 2 v l.length (flatS l)) : RowV w v l := by
  obtain ⟨x, c0, hv, hS⟩ := rowAt_own h
  obtain ⟨_, ⟨h2, h3⟩ | ⟨g, c, cur, h2, h3, h4, h5, h6, _⟩⟩ := h
  · exact .inl ⟨h2, List.eq_nil_of_length_eq_zero h3⟩
  · rw [h2] at hv
    injection hv with e1 e2 e3
    subst e1 e3
    unfold maxLen at h6
    rcases hS with rfl | ⟨g', o', e4, hS⟩
    · exact .inr ⟨g, 0, c, h2, h5, by omega, (Array.getElem?_eq_some_iff.1 h4).1, fun i hi => absurd hi (by simp)⟩
    · injection e4 with e4
      injection e4 with e5 e6
      subst e5 e6
      exact .inr ⟨g, 0, c, h2, h5, by omega, hS⟩
theorem RowV.form {w : World} {v : Value} {l : List (Int × Int)} (h : RowV w v l) : ∃ x c, v = .slice x l.length c ∧ SRow w x l := by
  rcases h with ⟨h1, rfl⟩ | ⟨g, o, c, h1, _, _, h2⟩
  · exact ⟨none, 0, h1, .inl rfl⟩
  · exact ⟨_, c, h1, .inr ⟨g, o, rfl, h2⟩⟩

theorem flatS_len (l : List (Int × Int)) : (flatS l).length = l.length * 2 := by
  induction l with
  | nil => rfl
  | cons s l ih => rw [show flatS (s :: l) = .int .u64 s.1 :: .int .u64 s.2 :: flatS l from rfl]; simp only [List.length_cons, ih]; omega
theorem flatS_one (l : List (Int × Int)) : ∀ u ∈ flatS l, u.oneCell' = true := by
  intro u hu
  unfold flatS at hu
  obtain ⟨s, _, hs⟩ := List.mem_flatMap.1 hu
  simp at hs
  rcases hs with rfl | rfl <;> rfl
theorem SpansAt.drop {w : World} {g o : Nat} {l : List (Int × Int)} (h : SpansAt w g o l) (k : Nat) : SpansAt w g (o + k * 2) (l.drop k) :=
  ⟨h.1, fun i hi => by
    rw [List.length_drop] at hi
    obtain ⟨p, q⟩ := h.2 (k + i) (by omega)
    rw [List.getD_eq_getElem?_getD, List.getElem?_drop, ← List.getD_eq_getElem?_getD]
    rw [show o + k * 2 + i * 2 = o + (k + i) * 2 by omega]
    exact ⟨p, q⟩⟩
theorem SpansAt.news {w : World} : ∀ {l : List (Int × Int)} {g o : Nat}, SpansAt w g o l → ∀ (j : Nat) (u : Value), (flatS l)[j]? = some u → w.cell? ((⟨g, o, none⟩ : Addr).add j) = some u
  | [], g, o, _, j, u, hu => by simp [flatS] at hu
  | s :: l, g, o, h, j, u, hu => by
    rw [show flatS (s :: l) = .int .u64 s.1 :: .int .u64 s.2 :: flatS l from rfl] at hu
    obtain ⟨p, q⟩ := h.2 0 (by simp)
    rcases j with _ | _ | j
    · simp at hu
      subst hu
      simpa [addr_add] using p
    · simp at hu
      subst hu
      simpa [addr_add] using q
    · simp only [List.getElem?_cons_succ] at hu
      have := SpansAt.news (w := w) (l := l) (g := g) (o := o + 2) (by simpa using h.drop 1) j u hu
      rw [addr_add] at this ⊢
      rw [show o + (j + 1 + 1) = o + 2 + j by omega]
      exact this

theorem wpList_append_none {P : Program} {ops : Array Oper} {rest : List Oper} {o : Oper} {a : Act} {w : World} {Q : Exit → Act → World → Prop} (hgd : o.guard = none) (s x : Operand) (t : TypeId)
    (ho : o.op = .call { callee := .builtin .append, args := #[s, x], argTypes := #[t, t] })
    (base : Nat) (e : TypeId) (i : TypeInfo) (size : Nat) (ht : P.underlying t = some (.slice e)) (hi : P.info? e = some i) (hsize : i.size = size)
    (v : Value) (n : Nat) (xs : List Value) (hs : a.eval s = v) (hown : w.ownsRow base e size v n xs) (hx : a.eval x = .slice none 0 0)
    (h : wpList P ops Q rest (a.put o.dst v) w) : wpList P ops Q (o :: rest) a w :=
  wpList_plain hgd fun _ hK => by
    have hr := run_append_owned_none (w := w) (P := P) base t o.type e i size ht hi v n xs hown
    unfold Oper.wp execOp
    simp only [ho, resolve, invoke, builtin, Sem.run_bind, Sem.run_pure, Result.andThen_ok, List.map_toArray, List.map_cons, List.map_nil, hs, hx, hr]
    exact hK _ _ h

/-- a span's box -/
def BoxAt (w : World) (P : Nat) (a b : Int) : Prop := w.heap[P]? = some (.cells #[.int .u64 a, .int .u64 b] 84 (0, 0))
theorem BoxAt.lt {w : World} {P : Nat} {a b : Int} (h : BoxAt w P a b) : P < w.heap.size := (Array.getElem?_eq_some_iff.1 h).1
theorem BoxAt.cells {w : World} {P : Nat} {a b : Int} (h : BoxAt w P a b) : (w.cell? ⟨P, 0, none⟩ = some (.int .u64 a) ∧ w.cell? ⟨P, 1, none⟩ = some (.int .u64 b)) ∧ ∀ j, w.frozen? ⟨P, j, none⟩ = false := by
  refine ⟨?_, fun j => ?_⟩
  · unfold World.cell?
    rw [show w.heap[P]? = _ from h]
    exact ⟨rfl, rfl⟩
  · unfold World.frozen?
    rw [show w.heap[P]? = _ from h]
    simp
theorem BoxAt.below {w w' : World} {P B : Nat} {a b : Int} (h : BoxAt w P a b) (hP : P < B) (k : Below B w w') : BoxAt w' P a b := by
  unfold BoxAt
  rw [k.block P hP]
  exact h

structure Add1 (w1 : World) (P n : Nat) (l : List (Int × Int)) (a b : Int) (ov : Value) (k : Nat) (ls l' : List (Int × Int)) (wx : World) : Prop where
  hk : k ≤ n
  hls : ls.length = k
  hll : ls ++ l' = l
  good : ∃ low, 0 ≤ low ∧ GoodL low l'
  own : wx.ownsRow (P + 1) 84 2 ov k (flatS ls)
  bel : Below (P + 1) w1 wx

set_option maxHeartbeats 16000000 in
set_option maxRecDepth 100000 in
theorem rAddSpan (v : Value) (l : List (Int × Int)) (a b : Int) (hg : GoodL 0 l) (hlen : l.length ≤ 100000) (ha : 0 ≤ a) (hab : a ≤ b) (hb : b ≤ 4611686018427387903) (w : World) (hR : RowV w v l) :
    Calls Try.prog 64 #[v, .agg #[.int .u64 a, .int .u64 b]] w fun e w' => ∃ v', e = .returned v' ∧ Below w.heap.size w w' ∧ w'.ownsRow w.heap.size 84 2 v' (addS l a b).length (flatS (addS l a b)) := by
  obtain ⟨i, hi, hzz, hs, hbb⟩ := info_parts (P := Try.prog) (e := 84) (z := .agg #[.int .u64 0, .int .u64 0]) (size := 2) (bytes := 16) (by kernel_rfl)
  obtain ⟨x, c, hv, hS⟩ := hR.form
  have HR := Lib.hid hR
  subst hv
  have HS := Lib.hid hS
  have HG := Lib.hid hg
  obtain ⟨n, hn⟩ : ∃ n, l.length = n := ⟨_, rfl⟩
  have HN := Lib.hid hn
  rw [hn] at hlen HR ⊢
  clear hS hg hn hR
  have hnI : (n : Int) ≤ 100000 := by omega
  go_enter Try.func64, Try.ntmps64
  go_upto_block 0 with fail
  obtain ⟨P, hP⟩ : ∃ P, P = w.heap.size := ⟨_, rfl⟩
  obtain ⟨w1, hw1⟩ : ∃ w1, w1 = w.alloc (.cells #[.int .u64 a, .int .u64 b] 84 (0, 0)) := ⟨_, rfl⟩
  have x1 : BoxAt w1 P a b := by rw [hw1, hP]; exact heap_alloc_new w _
  have b01 : Below P w w1 := by rw [hw1, hP]; exact (Below.refl _ _).alloc (Nat.le_refl _) _
  have z1 : w1.heap.size = P + 1 := by rw [hw1, hP]; simp
  have hPw : P ≤ w.heap.size := by omega
  have HPW : Hid (P = w.heap.size) := Lib.hid hP
  have HS1 : Hid (SRow w1 x l) := Lib.hid (HS.out.below (by rw [hP] at b01; exact b01))
  rw [← hw1, ← hP]
  clear hw1 hP
  go_cut [5, 6] from 7 (fun ov iv wx => ∃ (k : Nat) (ls l' : List (Int × Int)), iv = .int .i64 (k : Int) ∧ Add1 w1 P n l a b ov k ls l' wx ∧ addS l a b = ls ++ absorbS l' a b)
  case first =>
    go_wp2_with fail
    go_loopw [5, 6] (fun ov iv wr => ∃ (k : Nat) (ls l' : List (Int × Int)), iv = .int .i64 (k : Int) ∧ Add1 w1 P n l a b ov k ls l' wr ∧ addS l a b = ls ++ addS l' a b) (fun _ iv _ => (n - intOf iv).toNat)
    case atStart => exact ⟨0, [], l, rfl, ⟨by omega, rfl, rfl, ⟨0, Int.le_refl _, HG.out⟩, World.ownsRow_nil _ _ _ _, Below.refl _ _⟩, rfl⟩
    case round =>
      obtain ⟨k, ls, l', rfl, ⟨hk, hls, hll, ⟨low, hlow, hgood⟩, own, bel⟩, hadd⟩ := hrel
      have hk0 : (0 : Int) ≤ (k : Int) := by omega
      have HLS := Lib.hid hls
      have HLL := Lib.hid hll
      have HADD := Lib.hid hadd
      have OWN := Lib.hid own
      have sb := bel.size
      have X := x1.below (Nat.lt_succ_self P) bel
      have lX := X.lt
      obtain ⟨⟨p0, p1⟩, _⟩ := X.cells
      clear hls hll hadd own
      rcases l' with _ | ⟨⟨lo, hi'⟩, l2⟩
      · have hkn : k = n := by
          have e1 := congrArg List.length HLL.out
          rw [List.append_nil, HLS.out, HN.out] at e1
          exact e1
        have hd : decide ((k : Int) < (n : Int)) = false := decide_eq_false (by omega)
        go_wp2_with fail
        go_quiet (fail)
        go_wp2_with fail
        go_meet
        have bd := belDrewN wr nq
        exact ⟨k, ls, [], rfl, ⟨hk, HLS.out, HLL.out, ⟨low, hlow, hgood⟩, own_below OWN.out bd, bel.trans (bd.mono (by omega))⟩, HADD.out⟩
      obtain ⟨g1, g2, g3, g4⟩ := hgood
      have hlt : k < n := by
        have e1 := congrArg List.length HLL.out
        rw [List.length_append, HLS.out, HN.out, List.length_cons] at e1
        omega
      have hlt' : (k : Int) < (n : Int) := by omega
      have hd0 : decide ((k : Int) < (n : Int)) = true := decide_eq_true hlt'
      obtain ⟨ga, oa, rfl, hga, c0, c1⟩ := (HS1.out.below (bel.mono (by omega))).at k (by rw [HN.out]; exact hlt)
      rw [← HLL.out, getD_mid ls l2 (lo, hi') k HLS.out] at c0 c1
      have c0 : wr.cell? ⟨ga, oa + k * 2, none⟩ = some (.int .u64 lo) := c0
      have c1 : wr.cell? ⟨ga, oa + k * 2 + 1, none⟩ = some (.int .u64 hi') := c1
      have hw1' : IntKind.u64.wrap (hi' + 1) = hi' + 1 := by rw [IntKind.wrap_u64]; omega
      by_cases hc : hi' + 1 < a
      · have hd : decide (hi' + 1 < a) = true := decide_eq_true hc
        go_wp2_with fail
        go_quiet (fail)
        have bd := belDrewN wr nq
        have f0 : (wr.drewN nq).cell? ⟨ga, oa + k * 2, none⟩ = some (.int .u64 lo) := by rw [bd.cell hga]; exact c0
        have f1 : (wr.drewN nq).cell? ⟨ga, oa + k * 2 + 1, none⟩ = some (.int .u64 hi') := by rw [bd.cell hga]; exact c1
        obtain ⟨w3, hw3⟩ : ∃ w3, w3 = wr.drewN nq := ⟨_, rfl⟩
        have own3 : w3.ownsRow (P + 1) 84 2 u5 k (flatS ls) := by rw [hw3]; exact own_below OWN.out bd
        have b3 : Below (P + 1) w1 w3 := by rw [hw3]; exact bel.trans (bd.mono (by omega))
        rw [← hw3] at f0 f1 ⊢
        clear hw3 bd c0 c1 p0 p1 X OWN
        have s3 := b3.size
        go_wp2_with (at_builtin; refine wpList_append_own _ rfl (.tmp 22) (.tmp 27) 50 rfl (P + 1) 84 i (.agg #[.int .u64 0, .int .u64 0]) 2 16 Try.underlying50 hi hzz hs hbb rfl (by decide) _ k _ rfl (own3.alloc _) ⟨w3.heap.size, 0, none⟩ 1 1 [.int .u64 lo, .int .u64 hi'] rfl rfl (news2 _ _ _ _) (two2 _ _) (by simp [maxLen]; omega) (by omega) (by simp; omega) ?_; intro v6 w6 own6 hgrow6 hnil6)
        have b56 : Below (P + 1) w3 w6 := below_grownR ((Below.refl _ _).alloc (by omega) _) hgrow6 (by simp; omega) (fun k hk => (own3.lt k hk).1)
        go_roundw
        case rel =>
          refine ⟨k + 1, ls ++ [(lo, hi')], l2, by congr 1, ⟨by omega, by rw [List.length_append, HLS.out]; rfl, by rw [List.append_assoc]; exact HLL.out, ⟨hi' + 2, by omega, g4⟩, ?_, b3.trans b56⟩, ?_⟩
          · rw [flatS_append]
            exact own6
          · rw [HADD.out, addS, if_pos hc, List.append_assoc]
            rfl
        case measure => simp only [intOf]; omega
      · have hd : decide (hi' + 1 < a) = false := decide_eq_false hc
        go_wp2_with fail
        go_quiet (fail)
        go_wp2_with fail
        go_meet
        have bd := belDrewN wr nq
        exact ⟨k, ls, (lo, hi') :: l2, rfl, ⟨hk, HLS.out, HLL.out, ⟨low, hlow, g1, g2, g3, g4⟩, own_below OWN.out bd, bel.trans (bd.mono (by omega))⟩, by rw [HADD.out, addS, if_neg (by omega)]⟩
  case rest =>
    obtain ⟨k, ls, l', rfl, ⟨hk, hls, hll, ⟨low, hlow, hgood⟩, own, bel⟩, hadd⟩ := hcut
    have HLS := Lib.hid hls
    have HLL := Lib.hid hll
    have HADD := Lib.hid hadd
    have OWN := Lib.hid own
    have HGO := Lib.hid hgood
    have sb := bel.size
    have X := x1.below (Nat.lt_succ_self P) bel
    clear hls hll hadd own hgood
    go_upto_block 2 with fail
    go_cut [6] from 7 (fun iv wx => ∃ (k2 : Nat) (a2 b2 : Int), iv = .int .i64 (k2 : Int) ∧ k2 ≤ n ∧ absorbS l' a b = (a2, b2) :: l.drop k2 ∧ BoxAt wx P a2 b2 ∧ wx.ownsRow (P + 1) 84 2 u5 k (flatS ls) ∧ Below P w wx)
    case first =>
      go_wp2_with fail
      go_loopw [6] (fun iv wr => ∃ (k2 : Nat) (a2 b2 low2 : Int), iv = .int .i64 (k2 : Int) ∧ k2 ≤ n ∧ (0 ≤ low2 ∧ GoodL low2 (l.drop k2)) ∧ (0 ≤ a2 ∧ a2 ≤ b2 ∧ b2 ≤ 4611686018427387903) ∧ absorbS l' a b = absorbS (l.drop k2) a2 b2 ∧ BoxAt wr P a2 b2 ∧ wr.ownsRow (P + 1) 84 2 u5 k (flatS ls) ∧ Below P w wr) (fun iv _ => (n - intOf iv).toNat)
      case atStart => exact ⟨k, a, b, low, rfl, hk, ⟨hlow, by rw [← HLL.out, ← HLS.out, List.drop_left]; exact HGO.out⟩, ⟨ha, hab, hb⟩, by rw [← HLL.out, ← HLS.out, List.drop_left], X, OWN.out, b01.trans (bel.mono (by omega))⟩
      case round =>
        obtain ⟨k2, a2, b2, low2, rfl, hk2, ⟨hlow2, hgood2⟩, ⟨q0, q1, q2⟩, habs, X2, own2, bel2⟩ := hrel
        have hk0 : (0 : Int) ≤ (k2 : Int) := by omega
        have HABS := Lib.hid habs
        have HGO2 := Lib.hid hgood2
        have OWN2 := Lib.hid own2
        have lX := X2.lt
        have sb2 := bel2.size
        obtain ⟨⟨p0, p1⟩, fz⟩ := X2.cells
        have y0 := fz 0
        have y1 := fz 1
        clear habs own2 hgood2 fz
        have hw1' : IntKind.u64.wrap (b2 + 1) = b2 + 1 := by rw [IntKind.wrap_u64]; omega
        rcases hdr : l.drop k2 with _ | ⟨⟨lo, hi'⟩, l2⟩
        · have hkn : k2 = n := by
            have e1 := congrArg List.length hdr
            rw [List.length_drop, HN.out] at e1
            simp at e1
            omega
          have HDR := Lib.hid hdr
          clear hdr
          have hd : decide ((k2 : Int) < (n : Int)) = false := decide_eq_false (by omega)
          go_wp2_with fail
          go_quiet (fail)
          go_wp2_with fail
          go_meet
          have bd := belDrewN wr nq
          exact ⟨k2, a2, b2, rfl, hk2, by rw [HABS.out, HDR.out, absorbS], X2.below (by omega) bd, own_below OWN2.out bd, bel2.trans (bd.mono (by omega))⟩
        have hlt : k2 < n := by
          have e1 := congrArg List.length hdr
          rw [List.length_drop, HN.out, List.length_cons] at e1
          omega
        have hlt' : (k2 : Int) < (n : Int) := by omega
        have hd0 : decide ((k2 : Int) < (n : Int)) = true := decide_eq_true hlt'
        obtain ⟨g1, g2, g3, g4⟩ : low2 ≤ lo ∧ lo ≤ hi' ∧ hi' ≤ 4611686018427387903 ∧ GoodL (hi' + 2) l2 := by have h := HGO2.out; rw [hdr] at h; exact h
        have hgd : l.getD k2 (0, 0) = (lo, hi') := by
          have e1 := congrArg (·.getD 0 (0, 0)) hdr
          simp only [List.getD_eq_getElem?_getD, List.getElem?_drop, Nat.add_zero] at e1
          rw [List.getD_eq_getElem?_getD, e1]
          rfl
        have hd2 : l.drop (k2 + 1) = l2 := by rw [← List.drop_drop, hdr]; rfl
        have HDR := Lib.hid hdr
        have HD2 := Lib.hid hd2
        have bw1 : Below w.heap.size w wr := bel2.mono (by have := HPW.out; omega)
        obtain ⟨ga, oa, rfl, hga, c0, c1⟩ : ∃ g o, x = some ⟨g, o, none⟩ ∧ g < P ∧ wr.cell? ⟨g, o + k2 * 2, none⟩ = some (.int .u64 lo) ∧ wr.cell? ⟨g, o + k2 * 2 + 1, none⟩ = some (.int .u64 hi') := by
          obtain ⟨g, o, h1, h2, h3, h4⟩ := HS.out.at k2 (by rw [HN.out]; exact hlt)
          rw [hgd] at h3 h4
          have h2 : g < P := by have := HPW.out; omega
          exact ⟨g, o, h1, h2, by rw [bel2.cell h2]; exact h3, by rw [bel2.cell h2]; exact h4⟩
        have hgaP : ga ≠ P := by omega
        have hPga : P ≠ ga := by omega
        clear hdr hgd hd2 bw1
        by_cases hc : lo ≤ b2 + 1
        · have hd : decide (lo ≤ b2 + 1) = true := decide_eq_true hc
          go_wp2_with fail
          go_quiet (fail)
          go_wp2_with fail
          obtain ⟨w3, hw3⟩ : ∃ w3, w3 = wr.drewN nq := ⟨_, rfl⟩
          have bd := belDrewN wr nq
          rw [← hw3] at bd
          have X3 : BoxAt w3 P a2 b2 := X2.below (by omega) bd
          have own3 := own_below OWN2.out bd
          have b3 : Below P w w3 := bel2.trans (bd.mono (by omega))
          have f0 : w3.cell? ⟨ga, oa + k2 * 2, none⟩ = some (.int .u64 lo) := by rw [bd.cell (by simp; omega)]; exact c0
          have f1 : w3.cell? ⟨ga, oa + k2 * 2 + 1, none⟩ = some (.int .u64 hi') := by rw [bd.cell (by simp; omega)]; exact c1
          rw [← hw3]
          clear hw3 bd c0 c1 p0 p1 y0 y1 X2 OWN2 bel2 lX sb2
          have s3 := b3.size
          have lX := X3.lt
          obtain ⟨⟨p0, p1⟩, fz⟩ := X3.cells
          have y0 := fz 0
          have y1 := fz 1
          clear fz
          refine wp_region_still_tail 9 (by kernel_rfl) (by kernel_rfl) ?_
          simp only [List.take_succ_cons, List.take_zero, List.drop_succ_cons, List.drop_zero]
          repeat still_step
          refine wpStill_nil ?_
          go_wp2_with fail
          obtain ⟨w4, hw4⟩ : ∃ w4, w4 = (w3.setCell ⟨P, 0, none⟩ (.int .u64 (min a2 lo))).drew := ⟨_, rfl⟩
          have X4 : BoxAt w4 P (min a2 lo) b2 := by rw [hw4]; exact BoxAt.below (heap_set_self w3 P 0 _ _ _ _ X3) (Nat.lt_succ_self P) ((belDrew _).mono (by simp; omega))
          have own4 : w4.ownsRow (P + 1) 84 2 u5 k (flatS ls) := by rw [hw4]; exact own_below (ownKept own3 (Nat.lt_succ_self P) (fun i hi hl => kept_set _ _ _ _ hi)) (belDrew _)
          have b4 : Below P w w4 := by rw [hw4]; exact (b3.setCell (by simp) _).trans ((belDrew _).mono (by simp; omega))
          have g0 : w4.cell? ⟨ga, oa + k2 * 2, none⟩ = some (.int .u64 lo) := by rw [hw4]; go_simp
          have g1' : w4.cell? ⟨ga, oa + k2 * 2 + 1, none⟩ = some (.int .u64 hi') := by rw [hw4]; go_simp
          rw [← hw4]
          clear hw4 f0 f1 p0 p1 y0 y1 X3 own3 b3 s3 lX
          have s4 := b4.size
          have lX := X4.lt
          obtain ⟨⟨p0, p1⟩, fz⟩ := X4.cells
          have y0 := fz 0
          have y1 := fz 1
          clear fz
          refine wp_region_still_tail 9 (by kernel_rfl) (by kernel_rfl) ?_
          simp only [List.take_succ_cons, List.take_zero, List.drop_succ_cons, List.drop_zero]
          repeat still_step
          refine wpStill_nil ?_
          go_wp2_with fail
          obtain ⟨w5, hw5⟩ : ∃ w5, w5 = (w4.setCell ⟨P, 1, none⟩ (.int .u64 (max b2 hi'))).drew := ⟨_, rfl⟩
          have X5 : BoxAt w5 P (min a2 lo) (max b2 hi') := by rw [hw5]; exact BoxAt.below (heap_set_self w4 P 1 _ _ _ _ X4) (Nat.lt_succ_self P) ((belDrew _).mono (by simp; omega))
          have own5 : w5.ownsRow (P + 1) 84 2 u5 k (flatS ls) := by rw [hw5]; exact own_below (ownKept own4 (Nat.lt_succ_self P) (fun i hi hl => kept_set _ _ _ _ hi)) (belDrew _)
          have b5 : Below P w w5 := by rw [hw5]; exact (b4.setCell (by simp) _).trans ((belDrew _).mono (by simp; omega))
          rw [← hw5]
          clear hw5 g0 g1' p0 p1 y0 y1 X4 own4 b4
          go_roundw
          case rel => exact ⟨k2 + 1, min a2 lo, max b2 hi', hi' + 2, by congr 1, by omega, ⟨by omega, by rw [HD2.out]; exact g4⟩, ⟨by omega, by omega, by omega⟩, by rw [HABS.out, HDR.out, absorbS, if_pos hc, HD2.out], X5, own5, b5⟩
          case measure => simp only [intOf]; omega
        · have hd : decide (lo ≤ b2 + 1) = false := decide_eq_false hc
          go_wp2_with fail
          go_quiet (fail)
          go_wp2_with fail
          go_meet
          have bd := belDrewN wr nq
          exact ⟨k2, a2, b2, rfl, hk2, by rw [HABS.out, HDR.out, absorbS, if_neg (by omega)], X2.below (by omega) bd, own_below OWN2.out bd, bel2.trans (bd.mono (by omega))⟩
    case rest =>
      obtain ⟨k2, a2, b2, rfl, hk2, habs, X2, own2, bel2⟩ := hcut
      have OWN2 := Lib.hid own2
      have HABS := Lib.hid habs
      have BEL := Lib.hid bel2
      have lX := X2.lt
      obtain ⟨⟨p0, p1⟩, _⟩ := X2.cells
      have hkk : k ≤ 100000 := by omega
      have hfin : addS l a b = (ls ++ [(a2, b2)]) ++ l.drop k2 := by rw [HADD.out, HABS.out, List.append_assoc]; rfl
      have hflat : flatS ls ++ [.int .u64 a2, .int .u64 b2] = flatS (ls ++ [(a2, b2)]) := by rw [flatS_append]; rfl
      have hlenf : (addS l a b).length = k + 1 + (n - k2) := by rw [hfin, List.length_append, List.length_append, HLS.out, List.length_drop, HN.out]; rfl
      have HFIN := Lib.hid hfin
      have HFLAT := Lib.hid hflat
      have HLENF := Lib.hid hlenf
      have hP9 : P = w.heap.size := HPW.out
      clear own2 habs bel2 X2 X hfin hflat hlenf
      have hk30 : (0 : Int) ≤ (k2 : Int) := by omega
      have hk31 : (k2 : Int) ≤ (n : Int) := by omega
      rcases HR.out with ⟨hnil, hl0⟩ | ⟨g, o, c', hv, hnc, hcm, hSp⟩
      · injection hnil with e1 e2 e3
        have hn0 : n = 0 := e2
        obtain rfl : k2 = 0 := by omega
        subst e1 e3 hn0
        have hz : ((0 : Nat) : Int) = 0 := rfl
        rw [hz]
        have HP9 := Lib.hid hP9
        have HL0 := Lib.hid hl0
        clear hP9 hl0 hz hk30 hk31
        go_wp2_with (first
          | (at_builtin; refine wpList_append_own _ rfl (.tmp 66) (.tmp 68) 50 rfl (P + 1) 84 i (.agg #[.int .u64 0, .int .u64 0]) 2 16 Try.underlying50 hi hzz hs hbb rfl (by decide) _ k _ rfl (OWN2.out.alloc _) ⟨wc.heap.size, 0, none⟩ 1 1 [.int .u64 a2, .int .u64 b2] rfl rfl (news2 _ _ _ _) (two2 _ _) (by simp [maxLen]; omega) (by omega) (by simp; omega) ?_; intro v6 w6 own6 hgrow6 hnil6; have b56 : Below (P + 1) wc w6 := below_grownR ((Below.refl _ _).alloc (by omega) _) hgrow6 (by simp; omega) (fun k hk => (OWN2.out.lt k hk).1); have b06 : Below P w w6 := BEL.out.trans (b56.mono (by omega)))
          | (at_builtin; refine wpList_append_none rfl (.tmp 70) (.tmp 73) 50 rfl (P + 1) 84 i 2 Try.underlying50 hi hs _ (k + 1) _ rfl own6 (by rfl) ?_))
        have own6 := own6
        rw [HFLAT.out] at own6
        go_ret
        refine ⟨v6, rfl, by rw [← HP9.out]; exact b06, ?_⟩
        rw [HLENF.out, HFIN.out, HL0.out, ← HP9.out]
        simpa using own_base own6 (Nat.le_succ _)
      · injection hv with e1 e2 e3
        subst e1 e3
        have HP9 := Lib.hid hP9
        have hSw : ∀ W, Below P w W → SpansAt W g o l := fun W hb => hSp.below (by rw [← HP9.out]; exact hb)
        have HSW := Lib.hid hSw
        have hncN : n ≤ c := by rw [← HN.out]; exact hnc
        clear hP9 hSp hSw hnc e2
        by_cases hkc : c = k2
        · have hkn : n = k2 := by omega
          subst hkc hkn
          have hdrop : l.drop n = [] := List.drop_eq_nil_of_le (by rw [HN.out]; omega)
          have HDROP := Lib.hid hdrop
          clear hdrop
          go_wp2_with (first
            | (at_builtin; refine wpList_append_own _ rfl (.tmp 66) (.tmp 68) 50 rfl (P + 1) 84 i (.agg #[.int .u64 0, .int .u64 0]) 2 16 Try.underlying50 hi hzz hs hbb rfl (by decide) _ k _ rfl (OWN2.out.alloc _) ⟨wc.heap.size, 0, none⟩ 1 1 [.int .u64 a2, .int .u64 b2] rfl rfl (news2 _ _ _ _) (two2 _ _) (by simp [maxLen]; omega) (by omega) (by simp; omega) ?_; intro v6 w6 own6 hgrow6 hnil6; have b56 : Below (P + 1) wc w6 := below_grownR ((Below.refl _ _).alloc (by omega) _) hgrow6 (by simp; omega) (fun k hk => (OWN2.out.lt k hk).1); have b06 : Below P w w6 := BEL.out.trans (b56.mono (by omega)))
            | (at_builtin; refine wpList_append_own _ rfl (.tmp 70) (.tmp 73) 50 rfl (P + 1) 84 i (.agg #[.int .u64 0, .int .u64 0]) 2 16 Try.underlying50 hi hzz hs hbb rfl (by decide) _ (k + 1) _ rfl own6 ⟨g, o, none⟩ 0 0 [] rfl rfl (fun j u h => by simp at h) (fun u h => by simp at h) (by simp [maxLen]; omega) (by omega) (by have := b56.size; omega) ?_; intro v7 w7 own7 hgrow7 hnil7))
          rw [HFLAT.out] at own7
          have b67 : Below (P + 1) w6 w7 := below_grownR (Below.refl _ _) hgrow7 (by have := b56.size; omega) (fun k hk => (own6.lt k hk).1)
          go_ret
          refine ⟨v7, rfl, by rw [← HP9.out]; exact b06.trans (b67.mono (by omega)), ?_⟩
          rw [HLENF.out, HFIN.out, HDROP.out, ← HP9.out]
          simpa using own_base own7 (Nat.le_succ _)
        · have hck : k2 ≠ c := fun e => hkc e.symm
          have hmm : n - k2 ≤ 100000 := by omega
          have hll2 : (l.drop k2).length = n - k2 := by rw [List.length_drop, HN.out]
          have HLL2 := Lib.hid hll2
          clear hll2
          go_wp2_with (first
            | (at_builtin; refine wpList_append_own _ rfl (.tmp 66) (.tmp 68) 50 rfl (P + 1) 84 i (.agg #[.int .u64 0, .int .u64 0]) 2 16 Try.underlying50 hi hzz hs hbb rfl (by decide) _ k _ rfl (OWN2.out.alloc _) ⟨wc.heap.size, 0, none⟩ 1 1 [.int .u64 a2, .int .u64 b2] rfl rfl (news2 _ _ _ _) (two2 _ _) (by simp [maxLen]; omega) (by omega) (by simp; omega) ?_; intro v6 w6 own6 hgrow6 hnil6; have b56 : Below (P + 1) wc w6 := below_grownR ((Below.refl _ _).alloc (by omega) _) hgrow6 (by simp; omega) (fun k hk => (OWN2.out.lt k hk).1); have b06 : Below P w w6 := BEL.out.trans (b56.mono (by omega)))
            | (at_builtin; refine wpList_append_own _ rfl (.tmp 70) (.tmp 73) 50 rfl (P + 1) 84 i (.agg #[.int .u64 0, .int .u64 0]) 2 16 Try.underlying50 hi hzz hs hbb rfl (by decide) _ (k + 1) _ rfl own6 ⟨g, o + k2 * 2, none⟩ (n - k2) (c - k2) (flatS (l.drop k2)) rfl (by rw [flatS_len, HLL2.out]) ((HSW.out _ b06).drop k2).news (flatS_one _) (by simp [maxLen]; omega) (by omega) (by have := b56.size; omega) ?_; intro v7 w7 own7 hgrow7 hnil7))
          rw [HFLAT.out, ← flatS_append] at own7
          have b67 : Below (P + 1) w6 w7 := below_grownR (Below.refl _ _) hgrow7 (by have := b56.size; omega) (fun k hk => (own6.lt k hk).1)
          go_ret
          refine ⟨v7, rfl, by rw [← HP9.out]; exact b06.trans (b67.mono (by omega)), ?_⟩
          rw [HLENF.out, HFIN.out, ← HP9.out]
          exact own_base own7 (Nat.le_succ _)

end Go.Proofs.Ytofggpmllfhgaaa
