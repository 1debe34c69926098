/- a packet that came in as an argument. -/
import Derived.Test.YtofggpmllfhgaaaBase
namespace Go.Proofs.Ytofggpmllfhgaaa
open Go.ChangeShapes Go.WideShapes Go.ChangeAt Go.RowKit
set_option linter.unusedVariables false
set_option maxRecDepth 100000

theorem open_data {H : Type} {enc : TypeId × Value → H} {w : World} {fuel : Nat} {cs : List Value} {x : DataW H × List MemPlace}
    (h : DataW.trod enc Try.prog w 0 (fun _ => true) true fuel 25 cs = some x) :
    ∃ (pn least off nonce ecn : Int) (a : Option Addr) (len cap : Nat) (z : List Int), cs = [.int .u64 pn, .int .u64 least, .int .u64 off, .int .u64 nonce, .int .i64 ecn, .slice a len cap] ∧
      W64 pn ∧ W64 least ∧ W64 off ∧ W64 nonce ∧ (-9223372036854775808 ≤ ecn ∧ ecn ≤ 9223372036854775807) ∧ IsRow .u8 w a len cap z := by
  obtain ⟨xs, n, _, _, hlen, hxs, hf⟩ := DataW.trod_struct Try.underlying25 h
  rw [show Try.prog.cellsOf 25 = 6 from by kernel_rfl] at hlen
  have hx6 : xs.length = 6 := hxs
  obtain ⟨c0, c1, c2, c3, c4, c5, rfl⟩ : ∃ c0 c1 c2 c3 c4 c5, cs = [c0, c1, c2, c3, c4, c5] := by
    rcases cs with _ | ⟨c0, _ | ⟨c1, _ | ⟨c2, _ | ⟨c3, _ | ⟨c4, _ | ⟨c5, _ | ⟨c6, cs⟩⟩⟩⟩⟩⟩⟩
    iterate 6 (· simp at hlen)
    · exact ⟨_, _, _, _, _, _, rfl⟩
    · simp at hlen
  have g0 : DataW.trod enc Try.prog w 0 (fun _ => true) true n 22 (([c0, c1, c2, c3, c4, c5].drop 0).take (Try.prog.cellsOf 22)) = some (xs[0]'(by omega)) := (hf 0 _ rfl).trans (List.getElem?_eq_getElem (by omega))
  have g1 : DataW.trod enc Try.prog w 0 (fun _ => true) true n 22 (([c0, c1, c2, c3, c4, c5].drop 1).take (Try.prog.cellsOf 22)) = some (xs[1]'(by omega)) := (hf 1 _ rfl).trans (List.getElem?_eq_getElem (by omega))
  have g2 : DataW.trod enc Try.prog w 0 (fun _ => true) true n 22 (([c0, c1, c2, c3, c4, c5].drop 2).take (Try.prog.cellsOf 22)) = some (xs[2]'(by omega)) := (hf 2 _ rfl).trans (List.getElem?_eq_getElem (by omega))
  have g3 : DataW.trod enc Try.prog w 0 (fun _ => true) true n 22 (([c0, c1, c2, c3, c4, c5].drop 3).take (Try.prog.cellsOf 22)) = some (xs[3]'(by omega)) := (hf 3 _ rfl).trans (List.getElem?_eq_getElem (by omega))
  have g4 : DataW.trod enc Try.prog w 0 (fun _ => true) true n 3 (([c0, c1, c2, c3, c4, c5].drop 4).take (Try.prog.cellsOf 3)) = some (xs[4]'(by omega)) := (hf 4 _ rfl).trans (List.getElem?_eq_getElem (by omega))
  have g5 : DataW.trod enc Try.prog w 0 (fun _ => true) true n 23 (([c0, c1, c2, c3, c4, c5].drop 5).take (Try.prog.cellsOf 23)) = some (xs[5]'(by omega)) := (hf 5 _ rfl).trans (List.getElem?_eq_getElem (by omega))
  rw [show Try.prog.cellsOf 22 = 1 from by kernel_rfl] at g0 g1 g2 g3
  rw [show Try.prog.cellsOf 3 = 1 from by kernel_rfl] at g4
  rw [show Try.prog.cellsOf 23 = 1 from by kernel_rfl] at g5
  simp only [List.drop_zero, List.drop_succ_cons, List.take_succ_cons, List.take_zero] at g0 g1 g2 g3 g4 g5
  obtain ⟨pn, e0, _, h0⟩ := DataW.trod_int Try.underlying22 g0
  obtain ⟨least, e1, _, h1⟩ := DataW.trod_int Try.underlying22 g1
  obtain ⟨off, e2, _, h2⟩ := DataW.trod_int Try.underlying22 g2
  obtain ⟨nonce, e3, _, h3⟩ := DataW.trod_int Try.underlying22 g3
  obtain ⟨ecn, e4, _, h4⟩ := DataW.trod_int Try.underlying3 g4
  cases e0; cases e1; cases e2; cases e3; cases e4
  rcases open_ints Try.underlying23 Try.underlying5 (by kernel_rfl) g5 with ⟨e5, _⟩ | ⟨a, len, cap, zs, e5, _, hl, hm, hz, _, hcell, hwz⟩
  · cases e5
    exact ⟨_, _, _, _, _, none, 0, 0, [], rfl, wfU64 h0, wfU64 h1, wfU64 h2, wfU64 h3, wfI64 h4, .inl ⟨rfl, rfl, rfl, rfl⟩⟩
  · cases e5
    exact ⟨_, _, _, _, _, some a, len, cap, zs, rfl, wfU64 h0, wfU64 h1, wfU64 h2, wfU64 h3, wfI64 h4, .inr ⟨a, rfl, hl, hm, by simpa using hz, hcell, hwz⟩⟩

end Go.Proofs.Ytofggpmllfhgaaa
