/- what a control does in any row of events, plainly: it stays within its bounds, and grows by no more than what was acknowledged. -/
import Derived.Test.YtikkmdbaekdolaaCtrlP
namespace Go.Proofs.Ytikkmdbaekdolaa
open Go.RowKit Go.Lib
set_option linter.unusedVariables false
set_option maxRecDepth 100000

/-- what holds behind k events: M is what it began with and all that was acknowledged, N the time, X the next number -/
structure PlayK (al ms lo hi : Int) (S : W9) (M N X : Int) (k : Nat) : Prop where
  ok : S.Ok
  c0 : lo ≤ S.c
  c1 : S.c ≤ hi
  t0 : lo ≤ S.t
  cm : S.c ≤ M
  r : al = 1 → 0 ≤ S.a ∧ S.c + S.a ≤ M
  q : al = 2 → 0 ≤ S.f ∧ S.f ≤ M
  m : M ≤ 1000 + 65535 * k
  n : 0 ≤ N ∧ N ≤ 65535 * k
  x : 0 ≤ X ∧ X ≤ 5 * k
  d : 0 ≤ S.C ∧ S.C ≤ k

/-- the configuration's bounds -/
structure MayK (al ms lo hi : Int) : Prop where
  yal : al = 1 ∨ al = 2
  yms : 1 ≤ ms ∧ ms ≤ 256
  ylo : ms ≤ lo
  yhi : lo ≤ hi
  yhh : hi ≤ 1000000

theorem playsR (C T A M z m : Int) (hm : 1 ≤ m ∧ m ≤ 256) (hz : 0 ≤ z ∧ z ≤ 65535) (h1 : m ≤ C) (h2 : 0 ≤ A) (h3 : C + A ≤ M) (h4 : M ≤ 1000000000) :
    C ≤ growC C T A z m ∧ 0 ≤ growA C T A z m ∧ growC C T A z m + growA C T A z m ≤ M + z := by
  unfold growC growA slowI addI mulI
  split
  · omega
  · split <;> omega
theorem clampI_le (x lo hi : Int) (h : lo ≤ x) (hh : lo ≤ hi) : lo ≤ clampI x lo hi ∧ clampI x lo hi ≤ hi ∧ clampI x lo hi ≤ x := by
  unfold clampI
  repeat' split
  all_goals omega

theorem PlayK.ack {al ms lo hi : Int} {S : W9} {M N X : Int} {k : Nat} (h : PlayK al ms lo hi S M N X k) (y : MayK al ms lo hi) (hk : k ≤ 300) (z v x s : Int) (hz : 0 ≤ z ∧ z ≤ 65535) (hv : 0 ≤ v ∧ v ≤ 65535) (hx : 0 ≤ x ∧ x ≤ 4) (hs : W64 s) :
    PlayK al ms lo hi (ackW true al ms lo hi z (N + v) s S) (M + z) (N + v) (X + x) (k + 1) := by
  obtain ⟨ok, c0, c1, t0, cm, r, q, m, n, x', d⟩ := h
  obtain ⟨yal, yms, ylo, yhi, yhh⟩ := y
  have hN : W64 (N + v) := ⟨by omega, by omega⟩
  have hlo : W64 lo := ⟨by omega, by omega⟩
  have hhi : W64 hi := ⟨by omega, by omega⟩
  unfold ackW
  rw [if_pos rfl]
  rcases yal with rfl | rfl
  · rw [if_neg (by decide)]
    obtain ⟨r0, r1⟩ := r rfl
    obtain ⟨p1, p2, p3⟩ := playsR S.c S.t S.a M z ms yms hz (by omega) r0 r1 (by omega)
    obtain ⟨b1, b2, b3⟩ := clampI_le (growC S.c S.t S.a z ms) lo hi (by omega) yhi
    have hG : W64 (growC S.c S.t S.a z ms) := ⟨by omega, by omega⟩
    have hA : W64 (growA S.c S.t S.a z ms) := ⟨by omega, by omega⟩
    exact ⟨⟨clampI_W _ _ _ hG hlo hhi, ok.t, hA, ok.p, ok.e, ok.k, ok.f, ok.E, ok.C⟩, b1, b2, t0, (show clampI (growC S.c S.t S.a z ms) lo hi ≤ M + z by omega), fun _ => ⟨p2, (show clampI (growC S.c S.t S.a z ms) lo hi + growA S.c S.t S.a z ms ≤ M + z by omega)⟩, fun h => by omega, by omega, by omega, by omega, ⟨d.1, (show S.C ≤ _ by omega)⟩⟩
  · rw [if_pos rfl]
    obtain ⟨q0, q1⟩ := q rfl
    obtain ⟨g1, g2, g3, g4⟩ := growPlays S.c S.t S.p S.e S.k S.f z ms (N + v) s M yms (by omega) cm ⟨q0, q1⟩ (by omega) hz
    obtain ⟨u1, u2, u3⟩ := gw_W S.c S.t S.p S.e S.k S.f z ms (N + v) s ok.c ok.p ok.e ok.k hN
    obtain ⟨b1, b2, b3⟩ := clampI_le (gwC S.c S.t S.p S.e S.k S.f z ms (N + v) s) lo hi (by omega) yhi
    have hG : W64 (gwC S.c S.t S.p S.e S.k S.f z ms (N + v) s) := ⟨by omega, by omega⟩
    have hF : W64 (gwF S.c S.t S.p S.e S.f z ms) := ⟨by omega, by omega⟩
    exact ⟨⟨clampI_W _ _ _ hG hlo hhi, ok.t, ok.a, u1, u2, u3, hF, ok.E, ok.C⟩, b1, b2, t0, (show clampI _ _ _ ≤ _ by omega), fun h => by omega, fun _ => ⟨g3, g4⟩, by omega, by omega, by omega, ⟨d.1, (show S.C ≤ _ by omega)⟩⟩

/-- behind a cut that is not one: nothing changed -/
theorem PlayK.stay {al ms lo hi : Int} {S : W9} {M N X : Int} {k : Nat} (h : PlayK al ms lo hi S M N X k) (v x : Int) (hv : 0 ≤ v ∧ v ≤ 65535) (hx : 0 ≤ x ∧ x ≤ 4) :
    PlayK al ms lo hi S M (N + v) (X + x) (k + 1) := by
  obtain ⟨ok, c0, c1, t0, cm, r, q, m, n, x', d⟩ := h
  exact ⟨ok, c0, c1, t0, cm, r, q, by omega, by omega, by omega, by omega⟩

theorem cutR (al lo hi n d n2 d2 : Int) (S : W9) : (cutW al lo hi n d n2 d2 S).E = S.E ∧ (cutW al lo hi n d n2 d2 S).C = S.C := by
  unfold cutW
  split <;> exact ⟨rfl, rfl⟩

theorem PlayK.cut {al ms lo hi : Int} {S : W9} {M N X : Int} {k : Nat} (h : PlayK al ms lo hi S M N X k) (y : MayK al ms lo hi) (hk : k ≤ 300) (nu de nu2 de2 : Int) (hn : 0 ≤ nu ∧ nu ≤ de ∧ 0 < de) (hn2 : 0 ≤ nu2 ∧ nu2 ≤ de2 ∧ 0 < de2)
    (v x p : Int) (hv : 0 ≤ v ∧ v ≤ 65535) (hx : 0 ≤ x ∧ x ≤ 4) (hp : 0 ≤ p ∧ p < X + x + 1) (hE : S.E ≤ p) :
    PlayK al ms lo hi (begW true al lo hi nu de nu2 de2 p (X + x + 1) S) M (N + v) (X + x) (k + 1) ∧ (begW true al lo hi nu de nu2 de2 p (X + x + 1) S).E = X + x + 1 ∧ (begW true al lo hi nu de nu2 de2 p (X + x + 1) S).C = S.C + 1 := by
  obtain ⟨ok, c0, c1, t0, cm, r, q, m, n, x', d⟩ := h
  obtain ⟨yal, yms, ylo, yhi, yhh⟩ := y
  have hlo : W64 lo := ⟨by omega, by omega⟩
  have hhi : W64 hi := ⟨by omega, by omega⟩
  have hok := beg_Ok true al lo hi nu de nu2 de2 p (X + x + 1) S ok hlo hhi ⟨by omega, by omega⟩ ⟨by omega, by omega⟩
  obtain ⟨h1, h2, h3, h4, h5⟩ := cut_less al lo hi nu de nu2 de2 S ok.c.1 hn.1 hn.2.2 hn.2.1 hn2.1 hn2.2.2 hn2.2.1
  obtain ⟨h6, h7⟩ := h2 yhi
  have e : begW true al lo hi nu de nu2 de2 p (X + x + 1) S = rndW p (X + x + 1) S (cutW al lo hi nu de nu2 de2 S) := by
    unfold begW; rw [if_pos rfl, if_pos hE]
  rw [e] at hok ⊢
  have eE : rndE S.E p (X + x + 1) = X + x + 1 := by unfold rndE; rw [if_pos hE, if_neg (by omega)]
  have eC : rndC S.E S.C p = S.C + 1 := by unfold rndC addI; rw [if_pos hE]; omega
  refine ⟨⟨hok, h6, h7, h3, (show (cutW al lo hi nu de nu2 de2 S).c ≤ M by omega), fun hr => ⟨(show 0 ≤ (cutW al lo hi nu de nu2 de2 S).a by omega), (show (cutW al lo hi nu de nu2 de2 S).c + (cutW al lo hi nu de nu2 de2 S).a ≤ M by omega)⟩, fun hq => ⟨(show 0 ≤ (cutW al lo hi nu de nu2 de2 S).f by have := h5 hq; omega), (show (cutW al lo hi nu de nu2 de2 S).f ≤ M by have := h5 hq; have := ok.c.1; omega)⟩, by omega, by omega, by omega, ?_⟩, eE, eC⟩
  show 0 ≤ rndC S.E S.C p ∧ rndC S.E S.C p ≤ _
  rw [eC]
  omega

theorem PlayK.col {al ms lo hi : Int} {S : W9} {M N X : Int} {k : Nat} (h : PlayK al ms lo hi S M N X k) (y : MayK al ms lo hi) (hk : k ≤ 300) (v x : Int) (hv : 0 ≤ v ∧ v ≤ 65535) (hx : 0 ≤ x ∧ x ≤ 4) :
    PlayK al ms lo hi (colW true al lo hi 1 2 7 10 S) M (N + v) (X + x) (k + 1) ∧ (colW true al lo hi 1 2 7 10 S).c = lo ∧ (colW true al lo hi 1 2 7 10 S).E = S.E ∧ (colW true al lo hi 1 2 7 10 S).C = S.C := by
  obtain ⟨ok, c0, c1, t0, cm, r, q, m, n, x', d⟩ := h
  obtain ⟨yal, yms, ylo, yhi, yhh⟩ := y
  have hlo : W64 lo := ⟨by omega, by omega⟩
  have hhi : W64 hi := ⟨by omega, by omega⟩
  have hok := col_Ok true al lo hi 1 2 7 10 S ok hlo hhi
  obtain ⟨h1, h2, h3, h4, h5⟩ := cut_less al lo hi 1 2 7 10 S ok.c.1 (by omega) (by omega) (by omega) (by omega) (by omega) (by omega)
  obtain ⟨e1, e2⟩ := cutR al lo hi 1 2 7 10 S
  have e : colW true al lo hi 1 2 7 10 S = setC lo (cutW al lo hi 1 2 7 10 S) := rfl
  rw [e] at hok ⊢
  refine ⟨⟨hok, (show lo ≤ lo by omega), yhi, h3, (show lo ≤ M by omega), fun hr => ⟨(show 0 ≤ (cutW al lo hi 1 2 7 10 S).a by omega), (show lo + (cutW al lo hi 1 2 7 10 S).a ≤ M by omega)⟩, fun hq => ⟨(show 0 ≤ (cutW al lo hi 1 2 7 10 S).f by have := h5 hq; omega), (show (cutW al lo hi 1 2 7 10 S).f ≤ M by have := h5 hq; have := ok.c.1; omega)⟩, by omega, by omega, by omega, ?_⟩, rfl, e1, e2⟩
  show 0 ≤ (cutW al lo hi 1 2 7 10 S).C ∧ (cutW al lo hi 1 2 7 10 S).C ≤ _
  rw [e2]
  omega

end Go.Proofs.Ytikkmdbaekdolaa
