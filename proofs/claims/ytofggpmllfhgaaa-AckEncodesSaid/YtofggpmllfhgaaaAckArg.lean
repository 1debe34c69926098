/- an acknowledgment that came in as an argument. -/
import Derived.Test.YtofggpmllfhgaaaRowsF
import Derived.Test.YtofggpmllfhgaaaWithin
namespace Go.Proofs.Ytofggpmllfhgaaa
open Go.ChangeShapes Go.WideShapes Go.ChangeAt Go.RowKit
set_option linter.unusedVariables false
set_option maxRecDepth 100000

theorem spans_of (w : World) (b off : Nat) : ∀ n, (∀ i, i < n → ∃ lo hi, W64 lo ∧ W64 hi ∧ w.cell? ⟨b, off + i * 2, none⟩ = some (.int .u64 lo) ∧ w.cell? ⟨b, off + i * 2 + 1, none⟩ = some (.int .u64 hi)) →
    ∃ l : List (Int × Int), l.length = n ∧ (∀ s ∈ l, W64 s.1 ∧ W64 s.2) ∧ ∀ i, i < n → w.cell? ⟨b, off + i * 2, none⟩ = some (.int .u64 (l.getD i (0, 0)).1) ∧ w.cell? ⟨b, off + i * 2 + 1, none⟩ = some (.int .u64 (l.getD i (0, 0)).2)
  | 0, _ => ⟨[], rfl, fun s hs => absurd hs (by simp), fun i hi => absurd hi (by omega)⟩
  | n + 1, h => by
    obtain ⟨l, h1, h2, h3⟩ := spans_of w b off n (fun i hi => h i (by omega))
    obtain ⟨lo, hi, a1, a2, a3, a4⟩ := h n (by omega)
    refine ⟨l ++ [(lo, hi)], by simp [h1], fun s hs => ?_, fun i hi' => ?_⟩
    · simp only [List.mem_append, List.mem_singleton] at hs
      rcases hs with hs | rfl
      · exact h2 s hs
      · exact ⟨a1, a2⟩
    · by_cases e : i = n
      · subst e
        rw [List.getD_eq_getElem?_getD, List.getElem?_append_right (by omega), h1, Nat.sub_self]
        exact ⟨a3, a4⟩
      · rw [List.getD_eq_getElem?_getD, List.getElem?_append_left (by omega), ← List.getD_eq_getElem?_getD]
        exact h3 i (by omega)

theorem open_spans {H : Type} {enc : TypeId × Value → H} {w : World} {fuel : Nat} {c : Value} {x : DataW H × List MemPlace}
    (h : DataW.trod enc Try.prog w 0 (fun _ => true) true fuel 50 [c] = some x) :
    ∃ (a : Option Addr) (cap : Nat) (l : List (Int × Int)), c = .slice a l.length cap ∧ SRow w a l ∧ (∀ s ∈ l, W64 s.1 ∧ W64 s.2) ∧ l.length ≤ 9223372036854775807 := by
  obtain ⟨a, len, cap, rfl⟩ : ∃ a len cap, c = .slice a len cap := by
    rcases Go.Deep.open_slice Try.underlying50 h with ⟨h0, _⟩ | ⟨x', l, c', m, n, D, Pl, hcs, _⟩
    · simp at h0
      exact ⟨_, _, _, h0⟩
    · simp at hcs
      exact ⟨_, _, _, hcs⟩
  have hr := rows_of_trod [some .u64, some .u64] Try.underlying50 h (fun m cs y hy => fits_of_trod 8 84 _ m _ _ (by kernel_rfl) hy)
  rw [show Try.prog.cellsOf 84 = 2 from by kernel_rfl] at hr
  rcases hr.plain (by omega) with rfl | ⟨h0, hm, b, off, rfl, hb, hx⟩
  · exact ⟨a, cap, [], rfl, .inl rfl, fun s hs => absurd hs (by simp), by simp⟩
  · obtain ⟨l, h1, h2, h3⟩ := spans_of w b off len (fun i hi => by
      obtain ⟨cs, hf, hl, hc⟩ := hx i hi
      match cs, hl with
      | [c0, c1], _ =>
        obtain ⟨⟨lo, e0, w0⟩, ⟨hi, e1, w1⟩, _⟩ := hf
        have q0 := hc 0 (by omega)
        have q1 := hc 1 (by omega)
        subst e0 e1
        exact ⟨lo, hi, wfU64 w0, wfU64 w1, by simpa using q0, by simpa [Nat.add_assoc] using q1⟩)
    subst h1
    unfold maxLen at hm
    exact ⟨_, cap, l, rfl, .inr ⟨b, off, rfl, hb, h3⟩, h2, by omega⟩

theorem open_ack {H : Type} {enc : TypeId × Value → H} {w : World} {fuel : Nat} {cs : List Value} {x : DataW H × List MemPlace}
    (h : DataW.trod enc Try.prog w 0 (fun _ => true) true fuel 52 cs = some x) :
    ∃ (a b : Option Addr) (ca cb : Nat) (l m : List (Int × Int)) (t r : Int) (p : Bool), cs = [.slice a l.length ca, .slice b m.length cb, .int .u64 t, .int .u64 r, .bool p] ∧
      SRow w a l ∧ SRow w b m ∧ ((∀ s ∈ l, W64 s.1 ∧ W64 s.2) ∧ l.length ≤ 9223372036854775807) ∧ ((∀ s ∈ m, W64 s.1 ∧ W64 s.2) ∧ m.length ≤ 9223372036854775807) ∧ W64 t ∧ W64 r := by
  obtain ⟨xs, n, _, _, hlen, hxs, hf⟩ := DataW.trod_struct Try.underlying52 h
  rw [show Try.prog.cellsOf 52 = 5 from by kernel_rfl] at hlen
  have hx5 : xs.length = 5 := hxs
  obtain ⟨c0, c1, c2, c3, c4, rfl⟩ : ∃ c0 c1 c2 c3 c4, cs = [c0, c1, c2, c3, c4] := by
    rcases cs with _ | ⟨c0, _ | ⟨c1, _ | ⟨c2, _ | ⟨c3, _ | ⟨c4, _ | ⟨c5, cs⟩⟩⟩⟩⟩⟩
    iterate 5 (· simp at hlen)
    · exact ⟨_, _, _, _, _, rfl⟩
    · simp at hlen
  have g0 : DataW.trod enc Try.prog w 0 (fun _ => true) true n 50 (([c0, c1, c2, c3, c4].drop 0).take (Try.prog.cellsOf 50)) = some (xs[0]'(by omega)) := (hf 0 _ rfl).trans (List.getElem?_eq_getElem (by omega))
  have g1 : DataW.trod enc Try.prog w 0 (fun _ => true) true n 50 (([c0, c1, c2, c3, c4].drop 1).take (Try.prog.cellsOf 50)) = some (xs[1]'(by omega)) := (hf 1 _ rfl).trans (List.getElem?_eq_getElem (by omega))
  have g2 : DataW.trod enc Try.prog w 0 (fun _ => true) true n 22 (([c0, c1, c2, c3, c4].drop 2).take (Try.prog.cellsOf 22)) = some (xs[2]'(by omega)) := (hf 2 _ rfl).trans (List.getElem?_eq_getElem (by omega))
  have g3 : DataW.trod enc Try.prog w 0 (fun _ => true) true n 22 (([c0, c1, c2, c3, c4].drop 3).take (Try.prog.cellsOf 22)) = some (xs[3]'(by omega)) := (hf 3 _ rfl).trans (List.getElem?_eq_getElem (by omega))
  have g4 : DataW.trod enc Try.prog w 0 (fun _ => true) true n 4 (([c0, c1, c2, c3, c4].drop 4).take (Try.prog.cellsOf 4)) = some (xs[4]'(by omega)) := (hf 4 _ rfl).trans (List.getElem?_eq_getElem (by omega))
  rw [show Try.prog.cellsOf 50 = 1 from by kernel_rfl] at g0 g1
  rw [show Try.prog.cellsOf 22 = 1 from by kernel_rfl] at g2 g3
  rw [show Try.prog.cellsOf 4 = 1 from by kernel_rfl] at g4
  simp only [List.drop_zero, List.drop_succ_cons, List.take_succ_cons, List.take_zero] at g0 g1 g2 g3 g4
  obtain ⟨t, e2, _, h2⟩ := DataW.trod_int Try.underlying22 g2
  obtain ⟨r, e3, _, h3⟩ := DataW.trod_int Try.underlying22 g3
  obtain ⟨p, e4, _⟩ := DataW.trod_bool Try.underlying4 g4
  cases e2; cases e3; cases e4
  obtain ⟨a, ca, l, rfl, sa, wa, la⟩ := open_spans g0
  obtain ⟨b, cb, m, rfl, sb, wb, lb⟩ := open_spans g1
  exact ⟨a, b, ca, cb, l, m, t, r, p, rfl, sa, sb, ⟨wa, la⟩, ⟨wb, lb⟩, wfU64 h2, wfU64 h3⟩

end Go.Proofs.Ytofggpmllfhgaaa
