/- The plain law of acknowledgments as bytes: what is read of bytes is what was put there, and nothing else. -/
import Derived.Test.YtofggpmllfhgaaaWithin
import Derived.Test.YtofggpmllfhgaaaSpans
namespace Go.Proofs.Ytofggpmllfhgaaa
open Go.RowKit Go.Lib
set_option linter.unusedVariables false
set_option maxRecDepth 100000

structure AckD where
  spans : List (Int × Int)
  marked : List (Int × Int)
  trig : Int
  xr : Int
  par : Bool

def zeroA : AckD := ⟨[], [], 0, 0, false⟩
def parL (p : Bool) : Int := if p = true then 1 else 0
def putAckL (a : AckD) : List Int := 2 :: (putRowL a.spans ++ (putRowL a.marked ++ (eightL a.trig ++ (eightL a.xr ++ [parL a.par]))))

structure MayA (a : AckD) : Prop where
  s : GoodL 0 a.spans
  m : GoodL 0 a.marked
  sl : 1 ≤ a.spans.length ∧ a.spans.length ≤ 32
  ml : a.marked.length ≤ 32
  ins : insideAll a.marked a.spans
  t : 0 ≤ a.trig ∧ a.trig ≤ 18446744073709551615
  x : 0 ≤ a.xr ∧ a.xr ≤ 18446744073709551615

instance (a l : List (Int × Int)) : Decidable (insideAll a l) := by unfold insideAll insideAt; infer_instance

def getA5 (s m : List (Int × Int)) (t x : Int) : List Int → Int × AckD
  | [] => (2, zeroA)
  | p :: zs => if 1 < p then (5, zeroA) else if 0 < zs.length then (3, zeroA) else if insideAll m s then (0, ⟨s, m, t, x, p == 1⟩) else (5, zeroA)
def getA4 (s m : List (Int × Int)) (t : Int) (zs : List Int) : Int × AckD :=
  if (wordF zs).2.2 = 0 then getA5 s m t (wordF zs).1 (zs.drop (wordF zs).2.1) else ((wordF zs).2.2, zeroA)
def getA3 (s m : List (Int × Int)) (zs : List Int) : Int × AckD :=
  if (wordF zs).2.2 = 0 then getA4 s m (wordF zs).1 (zs.drop (wordF zs).2.1) else ((wordF zs).2.2, zeroA)
def getA2 (s : List (Int × Int)) (zs : List Int) : Int × AckD :=
  if (getRowF 0 zs).1 = 0 then getA3 s (getRowF 0 zs).2.1 (getRowF 0 zs).2.2 else ((getRowF 0 zs).1, zeroA)
def getA1 (zs : List Int) : Int × AckD :=
  if (getRowF 1 zs).1 = 0 then getA2 (getRowF 1 zs).2.1 (getRowF 1 zs).2.2 else ((getRowF 1 zs).1, zeroA)
def getA : List Int → Int × AckD
  | [] => (2, zeroA)
  | k :: zs => if k = 2 then getA1 zs else (4, zeroA)

theorem getA_zero (bs : List Int) (E : Int) (d : AckD) (h : getA bs = (E, d)) : d ≠ zeroA → E = 0 := by
  intro hd
  have key : ∀ (c : Int), ((c, zeroA) : Int × AckD) = (E, d) → False := fun c e => hd (Prod.mk.inj e).2.symm
  rcases bs with _ | ⟨k, zs⟩
  · exact absurd h (fun e => key _ e)
  rw [getA] at h
  split at h
  · rw [getA1] at h
    split at h
    · rw [getA2] at h
      split at h
      · rw [getA3] at h
        split at h
        · rw [getA4] at h
          split at h
          · unfold getA5 at h
            split at h
            · exact absurd h (fun e => key _ e)
            split at h
            · exact absurd h (fun e => key _ e)
            split at h
            · exact absurd h (fun e => key _ e)
            split at h
            · exact (Prod.mk.inj h).1.symm
            · exact absurd h (fun e => key _ e)
          · exact absurd h (fun e => key _ e)
        · exact absurd h (fun e => key _ e)
      · exact absurd h (fun e => key _ e)
    · exact absurd h (fun e => key _ e)
  · exact absurd h (fun e => key _ e)

theorem goodL_all : ∀ (l : List (Int × Int)) (low : Int), 0 ≤ low → GoodL low l → goodAll l ∧ (∀ s ∈ l, W64 s.1 ∧ W64 s.2) ∧ (0 < l.length → low ≤ (l.getD 0 (0, 0)).1)
  | [], _, _, _ => ⟨fun i hi => absurd hi (by simp), fun s hs => absurd hs (by simp), fun h => absurd h (by simp)⟩
  | (lo, hi) :: l, low, h0, ⟨h1, h2, h3, h4⟩ => by
    obtain ⟨g, w, f⟩ := goodL_all l (hi + 2) (by omega) h4
    refine ⟨fun i hi' => ?_, fun s hs => ?_, fun _ => by simpa using h1⟩
    · rcases i with _ | i
      · exact ⟨⟨by simpa using h2, by simpa using h3⟩, fun h => absurd h (by omega)⟩
      · simp only [List.length_cons] at hi'
        obtain ⟨a, b⟩ := g i (by omega)
        refine ⟨by simpa using a, fun _ => ?_⟩
        rcases i with _ | i
        · have := f (by omega)
          simp at this ⊢
          omega
        · have := b (by omega)
          simpa using this
    · simp only [List.mem_cons] at hs
      rcases hs with rfl | hs
      · exact ⟨⟨by simp only; omega, by simp only; omega⟩, ⟨by simp only; omega, by simp only; omega⟩⟩
      · exact w s hs

theorem goodAll_L : ∀ (l : List (Int × Int)) (low : Int), goodAll l → (∀ s ∈ l, W64 s.1 ∧ W64 s.2) → (0 < l.length → low ≤ (l.getD 0 (0, 0)).1) → GoodL low l
  | [], _, _, _, _ => trivial
  | (lo, hi) :: l, low, g, w, f => by
    obtain ⟨⟨a, b⟩, _⟩ := g 0 (by simp)
    have f0 := f (by simp)
    simp at a b f0
    refine ⟨f0, a, b, goodAll_L l (hi + 2) (fun i hi' => ?_) (fun s hs => w s (by simp [hs])) (fun h => ?_)⟩
    · obtain ⟨p, q⟩ := g (i + 1) (by simp; omega)
      refine ⟨by simpa using p, fun h => ?_⟩
      have := q (by omega)
      rcases i with _ | i
      · omega
      · simpa using this
    · have := (g 1 (by simp; omega)).2 (by omega)
      simp at this ⊢
      omega

theorem getRowF_ok (least : Int) (zs rest : List Int) (l : List (Int × Int)) (hz : ∀ x ∈ zs, 0 ≤ x ∧ x ≤ 255) (h : getRowF least zs = (0, l, rest)) :
    GoodL 0 l ∧ least ≤ l.length ∧ l.length ≤ 32 ∧ putRowL l ++ rest = zs ∧ ∀ x ∈ rest, 0 ≤ x ∧ x ≤ 255 := by
  rcases zs with _ | ⟨n, zs⟩
  · simp [getRowF] at h
  rw [getRowF] at h
  have hn := hz n (by simp)
  split at h
  · simp at h
  next hx =>
  obtain ⟨h1, h2, h3, h4⟩ := rowF_ok n.toNat 0 zs rest l (fun x hx => hz x (by simp [hx])) h
  refine ⟨h1, by omega, by omega, ?_, h4⟩
  rw [putRowL, List.cons_append, h3, show (l.length : Int) = n by omega]

theorem getRowF_put (least : Int) (l : List (Int × Int)) (more : List Int) (h : GoodL 0 l) (h1 : least ≤ l.length) (h2 : l.length ≤ 32) : getRowF least (putRowL l ++ more) = (0, l, more) := by
  rw [putRowL, List.cons_append, getRowF, if_neg (by omega), Int.toNat_natCast, rowF_put l 0 more (Int.le_refl _) h]

theorem getRowF_cut (least : Int) (l : List (Int × Int)) (h : GoodL 0 l) (h1 : least ≤ l.length) (h2 : l.length ≤ 32) (j : Nat) (hj : j < (putRowL l).length) : getRowF least ((putRowL l).take j) = (2, [], []) := by
  rw [putRowL] at hj ⊢
  rcases j with _ | j
  · rfl
  rw [List.take_succ_cons, getRowF, if_neg (by omega), Int.toNat_natCast]
  exact rowF_cut l 0 j (Int.le_refl _) h (by simpa using hj)

theorem getA_any (a : AckD) (h : MayA a) (more : List Int) : getA (2 :: (putRowL a.spans ++ (putRowL a.marked ++ (eightL a.trig ++ (eightL a.xr ++ more))))) = getA5 a.spans a.marked a.trig a.xr more := by
  rw [getA, if_pos rfl, getA1, getRowF_put 1 a.spans _ h.s (by have := h.sl; omega) h.sl.2, if_pos rfl]
  rw [getA2, getRowF_put 0 a.marked _ h.m (by omega) h.ml, if_pos rfl]
  rw [getA3, wordF_put _ h.t, if_pos rfl, show (8 : Nat) = (eightL a.trig).length from rfl, List.drop_left]
  rw [getA4, wordF_put _ h.x, if_pos rfl, show (8 : Nat) = (eightL a.xr).length from rfl, List.drop_left]

theorem parL_le (p : Bool) : ¬ 1 < parL p := by cases p <;> decide
theorem parL_eq (p : Bool) : (parL p == 1) = p := by cases p <;> decide

theorem getA_put (a : AckD) (h : MayA a) : getA (putAckL a) = (0, a) := by
  rw [putAckL, getA_any a h, getA5, if_neg (parL_le _), if_neg (by simp), if_pos h.ins, parL_eq]
theorem getA_more (a : AckD) (h : MayA a) (y : Int) : getA (putAckL a ++ [y]) = (3, zeroA) := by
  rw [putAckL]
  simp only [List.cons_append, List.append_assoc]
  rw [getA_any a h]
  simp only [List.nil_append]
  rw [getA5, if_neg (parL_le _), if_pos (by simp)]

theorem getA_cut (a : AckD) (h : MayA a) (j : Nat) (hj : j < (putAckL a).length) : getA ((putAckL a).take j) = (2, zeroA) := by
  rw [putAckL] at hj ⊢
  rcases j with _ | j
  · rfl
  rw [List.take_succ_cons, getA, if_pos rfl]
  simp only [List.length_cons, List.length_append] at hj
  rw [take_app]
  split
  next hl => rw [getA1, getRowF_cut 1 _ h.s (by have := h.sl; omega) h.sl.2 _ hl, if_neg (by decide)]
  rw [getA1, getRowF_put 1 a.spans _ h.s (by have := h.sl; omega) h.sl.2, if_pos rfl]
  simp only
  rw [take_app]
  split
  next hl => rw [getA2, getRowF_cut 0 _ h.m (by omega) h.ml _ hl, if_neg (by decide)]
  rw [getA2, getRowF_put 0 a.marked _ h.m (by omega) h.ml, if_pos rfl]
  simp only
  rw [take_app]
  split
  next hl => rw [getA3, wordF_cut _ _ hl, if_neg (by decide)]
  rw [getA3, wordF_put _ h.t, if_pos rfl, show (8 : Nat) = (eightL a.trig).length from rfl, List.drop_left]
  simp only
  rw [take_app]
  split
  next hl => rw [getA4, wordF_cut _ _ hl, if_neg (by decide)]
  rw [getA4, wordF_put _ h.x, if_pos rfl, show (8 : Nat) = (eightL a.xr).length from rfl, List.drop_left]
  have e1 := eightL_len a.trig
  have e2 := eightL_len a.xr
  rw [show j - (putRowL a.spans).length - (putRowL a.marked).length - (eightL a.trig).length - (eightL a.xr).length = 0 by simp only [List.length_nil] at hj; omega, List.take_zero]
  rfl

theorem getA_ok (bs : List Int) (hb : ∀ x ∈ bs, 0 ≤ x ∧ x ≤ 255) (a : AckD) (h : getA bs = (0, a)) : MayA a ∧ putAckL a = bs := by
  rcases bs with _ | ⟨k, zs⟩
  · simp [getA] at h
  rw [getA] at h
  split at h
  case isFalse => simp at h
  case isTrue hk =>
  subst hk
  have z1 : ∀ x ∈ zs, 0 ≤ x ∧ x ≤ 255 := fun x hx => hb x (by simp [hx])
  rw [getA1] at h
  obtain ⟨e, s, zs2, hR⟩ : ∃ e s r, getRowF 1 zs = (e, s, r) := ⟨_, _, _, rfl⟩
  rw [hR] at h
  simp only at h
  split at h
  case isFalse he => exact absurd (congrArg Prod.fst h) he
  case isTrue he =>
  subst he
  obtain ⟨r1, r2, r3, r4, z2⟩ := getRowF_ok 1 zs zs2 s z1 hR
  rw [getA2] at h
  obtain ⟨e, m, zs3, hM⟩ : ∃ e s r, getRowF 0 zs2 = (e, s, r) := ⟨_, _, _, rfl⟩
  rw [hM] at h
  simp only at h
  split at h
  case isFalse he => exact absurd (congrArg Prod.fst h) he
  case isTrue he =>
  subst he
  obtain ⟨m1, m2, m3, m4, z3⟩ := getRowF_ok 0 zs2 zs3 m z2 hM
  rw [getA3] at h
  split at h
  case isFalse he => exact absurd (congrArg Prod.fst h) he
  case isTrue he =>
  obtain ⟨t1, t2⟩ := wordF_zero zs3 z3 he
  have z4 := byte_drop z3 (wordF zs3).2.1
  generalize (wordF zs3).1 = t at *
  generalize zs3.drop (wordF zs3).2.1 = zs4 at *
  rw [getA4] at h
  split at h
  case isFalse he => exact absurd (congrArg Prod.fst h) he
  case isTrue he =>
  obtain ⟨x1, x2⟩ := wordF_zero zs4 z4 he
  have z5 := byte_drop z4 (wordF zs4).2.1
  generalize (wordF zs4).1 = x at *
  generalize zs4.drop (wordF zs4).2.1 = zs5 at *
  rcases zs5 with _ | ⟨p, zs5⟩
  · simp [getA5] at h
  have hp := z5 p (by simp)
  rw [getA5] at h
  split at h
  · simp at h
  next p1 =>
  split at h
  · simp at h
  next p2 =>
  split at h
  case isFalse => simp at h
  case isTrue hi =>
  obtain rfl : zs5 = [] := List.eq_nil_of_length_eq_zero (by omega)
  obtain ⟨_, rfl⟩ := Prod.mk.injEq .. ▸ h
  refine ⟨⟨r1, m1, ⟨by simp only; omega, by simp only; omega⟩, by simp only; omega, hi, t1, x1⟩, ?_⟩
  rw [putAckL]
  simp only
  rw [show parL (p == 1) = p by
    rcases (by omega : p = 0 ∨ p = 1) with rfl | rfl <;> rfl, x2, t2, m4, r4]

/-- a row's value -/
def RowAt (w : World) (v : Value) (l : List (Int × Int)) : Prop := ∃ x c, v = .slice x l.length c ∧ SRow w x l
theorem RowAt.below {w w' : World} {v : Value} {l : List (Int × Int)} (h : RowAt w v l) (hb : Below w.heap.size w w') : RowAt w' v l := by
  obtain ⟨x, c, h1, h2⟩ := h
  exact ⟨x, c, h1, h2.below hb⟩
theorem RowAt.nil (w : World) : RowAt w (.slice none 0 0) [] := ⟨none, 0, rfl, .inl rfl⟩

theorem flatS_get : ∀ (l : List (Int × Int)) (i : Nat), i < l.length → (flatS l)[i * 2]? = some (.int .u64 (l.getD i (0, 0)).1) ∧ (flatS l)[i * 2 + 1]? = some (.int .u64 (l.getD i (0, 0)).2)
  | [], i, h => absurd h (by simp)
  | s :: l, 0, _ => ⟨rfl, rfl⟩
  | s :: l, i + 1, h => by
    have ih := flatS_get l i (by simpa using h)
    have e : flatS (s :: l) = .int .u64 s.1 :: .int .u64 s.2 :: flatS l := rfl
    rw [e, show (i + 1) * 2 = i * 2 + 1 + 1 by omega, show i * 2 + 1 + 1 + 1 = (i * 2 + 1) + 1 + 1 by omega]
    simpa using ih

theorem rowAt_own {w : World} {base : Nat} {v : Value} {l : List (Int × Int)} (h : w.ownsRow base 84 2 v l.length (flatS l)) : RowAt w v l := by
  obtain ⟨hlen, ⟨rfl, h2⟩ | ⟨g, c, cur, rfl, hg, hheap, hc, hm, hcs, htake⟩⟩ := h
  · exact ⟨none, 0, by rw [h2], .inl (List.eq_nil_of_length_eq_zero h2)⟩
  · refine ⟨some ⟨g, 0, none⟩, c, rfl, .inr ⟨g, 0, rfl, (Array.getElem?_eq_some_iff.1 hheap).1, fun i hi => ?_⟩⟩
    obtain ⟨f1, f2⟩ := flatS_get l i hi
    have key : ∀ k, k < l.length * 2 → w.cell? ⟨g, 0 + k, none⟩ = (flatS l)[k]? := fun k hk => by
      rw [cell_of_row w g (0 + k) cur _ _ hheap, ← Array.getElem?_toList]
      have := congrArg (·[k]?) htake
      simp only [List.getElem?_take] at this
      rw [if_pos hk] at this
      rw [Nat.zero_add, this]
    have k1 := key (i * 2) (by omega)
    have k2 := key (i * 2 + 1) (by omega)
    rw [f1] at k1
    rw [f2, ← Nat.add_assoc] at k2
    exact ⟨k1, k2⟩

end Go.Proofs.Ytofggpmllfhgaaa
