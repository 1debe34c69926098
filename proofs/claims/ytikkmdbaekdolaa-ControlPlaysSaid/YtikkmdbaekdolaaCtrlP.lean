/- package control, plainly: a control behind a loss, a mark, a collapse, an acknowledgment. -/
import Derived.Test.YtikkmdbaekdolaaCubic
import Derived.Test.YtikkmdbaekdolaaReno
import Derived.Test.YtikkmdbaekdolaaRound
import Derived.Test.YtikkmdbaekdolaaGrowJ
import Derived.Test.YtikkmdbaekdolaaGrowLaw
namespace Go.Proofs.Ytikkmdbaekdolaa
open Go.RowKit Go.Lib
set_option linter.unusedVariables false
set_option maxRecDepth 100000

/-- a control: its window and its round -/
structure W9 where
  c : Int
  t : Int
  a : Int
  p : Int
  e : Int
  k : Int
  f : Int
  E : Int
  C : Int

/-- all of it are words -/
structure W9.Ok (s : W9) : Prop where
  c : W64 s.c
  t : W64 s.t
  a : W64 s.a
  p : W64 s.p
  e : W64 s.e
  k : W64 s.k
  f : W64 s.f
  E : W64 s.E
  C : W64 s.C

/-- the window behind a cut, of Reno and of Cubic -/
def cut1 (lo hi n d : Int) (s : W9) : W9 := ⟨clampI (downI s.c n d) lo hi, max (downI s.c n d) lo, 0, s.p, s.e, s.k, s.f, s.E, s.C⟩
def cut2 (lo hi n d : Int) (s : W9) : W9 := ⟨clampI (downI s.c n d) lo hi, max (downI s.c n d) lo, 0, cutP s.c s.p, 18446744073709551615, 0, 0, s.E, s.C⟩
def cutW (al lo hi n d n2 d2 : Int) (s : W9) : W9 := if al = 2 then cut2 lo hi n2 d2 s else cut1 lo hi n d s
def rndW (q nx : Int) (s r : W9) : W9 := ⟨r.c, r.t, r.a, r.p, r.e, r.k, r.f, rndE s.E q nx, rndC s.E s.C q⟩
/-- behind a loss or a mark; whether there was a cut -/
def begW (m : Bool) (al lo hi n d n2 d2 q nx : Int) (s : W9) : W9 := if m = true then (if s.E ≤ q then rndW q nx s (cutW al lo hi n d n2 d2 s) else s) else s
def begO (m : Bool) (q : Int) (s : W9) : Bool := m && decide (s.E ≤ q)
def setC (x : Int) (s : W9) : W9 := ⟨x, s.t, s.a, s.p, s.e, s.k, s.f, s.E, s.C⟩
def colW (m : Bool) (al lo hi n d n2 d2 : Int) (s : W9) : W9 := if m = true then setC lo (cutW al lo hi n d n2 d2 s) else s
def ack1 (ms lo hi ak : Int) (s : W9) : W9 := ⟨clampI (growC s.c s.t s.a ak ms) lo hi, s.t, growA s.c s.t s.a ak ms, s.p, s.e, s.k, s.f, s.E, s.C⟩
def ack2 (ms lo hi ak n sm : Int) (s : W9) : W9 := ⟨clampI (gwC s.c s.t s.p s.e s.k s.f ak ms n sm) lo hi, s.t, s.a, gwP s.c s.t s.p s.e, gwE s.c s.t s.e n, gwK s.c s.t s.p s.e s.k ms, gwF s.c s.t s.p s.e s.f ak ms, s.E, s.C⟩
def ackW (m : Bool) (al ms lo hi ak n sm : Int) (s : W9) : W9 := if m = true then (if al = 2 then ack2 ms lo hi ak n sm s else ack1 ms lo hi ak s) else s
def staW (m : Bool) (x : Int) : W9 := if m = true then ⟨x, 18446744073709551615, 0, 0, 18446744073709551615, 0, 0, 0, 0⟩ else ⟨0, 0, 0, 0, 0, 0, 0, 0, 0⟩

theorem downI_scale (c n d k : Int) (hn : 0 ≤ n) (hd : 0 < d) (hk : 0 < k) : downI c (n * k) (d * k) = downI c n d := by
  obtain ⟨N, rfl⟩ := Int.eq_ofNat_of_zero_le hn
  obtain ⟨D, rfl⟩ := Int.eq_ofNat_of_zero_le (show 0 ≤ d by omega)
  obtain ⟨K, rfl⟩ := Int.eq_ofNat_of_zero_le (show 0 ≤ k by omega)
  unfold downI nDown
  rw [← Int.natCast_mul, ← Int.natCast_mul]
  simp only [Int.toNat_natCast]
  have hD : 0 < D := by omega
  have hK : 0 < K := by omega
  have h1 : 0 < D * K := Nat.mul_pos hD hK
  rw [if_neg (by omega), if_neg (by omega), ← Nat.mul_assoc, Nat.mul_div_mul_right _ _ hK]

theorem cut_loss (al lo hi : Int) (s : W9) : cutW al lo hi 10 20 14 20 s = cutW al lo hi 1 2 7 10 s := by
  have h1 := downI_scale s.c 1 2 10 (by omega) (by omega) (by omega)
  have h2 := downI_scale s.c 7 10 2 (by omega) (by omega) (by omega)
  unfold cutW cut1 cut2
  rw [show downI s.c 10 20 = downI s.c 1 2 from h1, show downI s.c 14 20 = downI s.c 7 10 from h2]
theorem cut_mark (al lo hi : Int) (s : W9) : cutW al lo hi 16 20 17 20 s = cutW al lo hi 4 5 17 20 s := by
  have h1 := downI_scale s.c 4 5 4 (by omega) (by omega) (by omega)
  unfold cutW cut1 cut2
  rw [show downI s.c 16 20 = downI s.c 4 5 from h1]
theorem beg_loss (m : Bool) (al lo hi q nx : Int) (s : W9) : begW m al lo hi 10 20 14 20 q nx s = begW m al lo hi 1 2 7 10 q nx s := by
  unfold begW; rw [cut_loss]
theorem beg_mark (m : Bool) (al lo hi q nx : Int) (s : W9) : begW m al lo hi 16 20 17 20 q nx s = begW m al lo hi 4 5 17 20 q nx s := by
  unfold begW; rw [cut_mark]
theorem col_same (m : Bool) (al lo hi : Int) (s : W9) : colW m al lo hi 10 20 14 20 s = colW m al lo hi 1 2 7 10 s := by
  unfold colW; rw [cut_loss]

/-! words stay words -/
theorem rnd_W {E C q nx : Int} (hE : W64 E) (hC : W64 C) (hq : W64 q) (hn : W64 nx) : W64 (rndE E q nx) ∧ W64 (rndC E C q) := by
  unfold rndE rndC addI W64 at *
  refine ⟨?_, ?_⟩ <;> (repeat split) <;> omega
theorem max_W {x y : Int} (hx : W64 x) (hy : W64 y) : W64 (max x y) := by unfold W64 at *; omega
theorem cut_Ok (al lo hi n d n2 d2 : Int) (s : W9) (h : s.Ok) (hl : W64 lo) (hh : W64 hi) : (cutW al lo hi n d n2 d2 s).Ok := by
  unfold cutW
  split
  · exact ⟨clampI_W _ _ _ (downI_W _ _ _) hl hh, max_W (downI_W _ _ _) hl, (show W64 0 from Wlit (by omega)), cutP_W _ _ h.c, (show W64 18446744073709551615 from Wlit (by omega)), (show W64 0 from Wlit (by omega)), (show W64 0 from Wlit (by omega)), h.E, h.C⟩
  · exact ⟨clampI_W _ _ _ (downI_W _ _ _) hl hh, max_W (downI_W _ _ _) hl, (show W64 0 from Wlit (by omega)), h.p, h.e, h.k, h.f, h.E, h.C⟩
theorem beg_Ok (m : Bool) (al lo hi n d n2 d2 q nx : Int) (s : W9) (h : s.Ok) (hl : W64 lo) (hh : W64 hi) (hq : W64 q) (hn : W64 nx) : (begW m al lo hi n d n2 d2 q nx s).Ok := by
  have hc := cut_Ok al lo hi n d n2 d2 s h hl hh
  have hr := rnd_W h.E h.C hq hn
  unfold begW
  split
  · split
    · exact ⟨hc.c, hc.t, hc.a, hc.p, hc.e, hc.k, hc.f, hr.1, hr.2⟩
    · exact h
  · exact h
theorem col_Ok (m : Bool) (al lo hi n d n2 d2 : Int) (s : W9) (h : s.Ok) (hl : W64 lo) (hh : W64 hi) : (colW m al lo hi n d n2 d2 s).Ok := by
  have hc := cut_Ok al lo hi n d n2 d2 s h hl hh
  unfold colW
  split
  · exact ⟨hl, hc.t, hc.a, hc.p, hc.e, hc.k, hc.f, hc.E, hc.C⟩
  · exact h

/-! what a control that is valid does -/
theorem downI_less (c n d : Int) (hc : 0 ≤ c) (hn : 0 ≤ n) (hd : 0 < d) (h : n ≤ d) : downI c n d ≤ c := by
  have h1 := downI_le c n d hc hn hd
  have h2 : c * n ≤ c * d := Int.mul_le_mul_of_nonneg_left h hc
  exact le_of_mul hd (by omega)
theorem cut_less (al lo hi n d n2 d2 : Int) (s : W9) (hc : 0 ≤ s.c) (hn : 0 ≤ n) (hd : 0 < d) (h : n ≤ d) (hn2 : 0 ≤ n2) (hd2 : 0 < d2) (h2 : n2 ≤ d2) : (cutW al lo hi n d n2 d2 s).c ≤ max s.c lo ∧ (lo ≤ hi → lo ≤ (cutW al lo hi n d n2 d2 s).c ∧ (cutW al lo hi n d n2 d2 s).c ≤ hi) ∧ lo ≤ (cutW al lo hi n d n2 d2 s).t ∧ (cutW al lo hi n d n2 d2 s).a = 0 ∧ (al = 2 → (cutW al lo hi n d n2 d2 s).f = 0) := by
  have h3 := downI_less s.c n d hc hn hd h
  have h4 := downI_less s.c n2 d2 hc hn2 hd2 h2
  unfold cutW
  split
  · refine ⟨?_, ?_, ?_, rfl, fun _ => rfl⟩
    · show clampI _ _ _ ≤ _
      unfold clampI; (repeat split) <;> omega
    · intro hlh
      show _ ≤ clampI _ _ _ ∧ clampI _ _ _ ≤ _
      unfold clampI; (repeat split) <;> omega
    · show lo ≤ max _ lo
      omega
  · refine ⟨?_, ?_, ?_, rfl, fun h => by omega⟩
    · show clampI _ _ _ ≤ _
      unfold clampI; (repeat split) <;> omega
    · intro hlh
      show _ ≤ clampI _ _ _ ∧ clampI _ _ _ ≤ _
      unfold clampI; (repeat split) <;> omega
    · show lo ≤ max _ lo
      omega

end Go.Proofs.Ytikkmdbaekdolaa
