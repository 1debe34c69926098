/- Several texts one behind the other: RowsF, RowsP, DataArg, CameArg, Copy, AckArg. -/
import Derived.Test.YtikkmdbaekdolaaBits
import Derived.Deep.Slices
import Derived.Test.YtikkmdbaekdolaaBase
import Derived.Test.YtikkmdbaekdolaaJgA
import Derived.Test.YtikkmdbaekdolaaJgC
import Derived.Test.YtikkmdbaekdolaaGr
import Derived.Maps.AppendAt
import Derived.Test.YtikkmdbaekdolaaJgB
/- SLICES OF FLAT ELEMENTS THAT CAME IN: structs and pairs of integers and bools. -/
namespace Go.Proofs.Ytikkmdbaekdolaa
open Go.ChangeShapes Go.WideShapes Go.ChangeAt Go.RowKit
set_option linter.unusedVariables false
set_option maxRecDepth 100000

/-- nil, or a row of 'cap' elements of n cells each, that fit -/
def IsRowsF (w : World) (a : Option Addr) (len cap n : Nat) (ks : List (Option IntKind)) : Prop :=
  (a = none ∧ len = 0 ∧ cap = 0) ∨ ∃ x, a = some x ∧ len ≤ cap ∧ cap ≤ maxLen ∧ ∀ i, i < cap → ∃ cs, w.cells? 0 (x.add (i * n)) n = some cs ∧ Fits ks cs

theorem Fits.length : ∀ (ks : List (Option IntKind)) (cs : List Value), Fits ks cs → ks.length = cs.length
  | [], [], _ => rfl
  | some k :: ks, c :: cs, h => congrArg (· + 1) (Fits.length ks cs h.2)
  | none :: ks, c :: cs, h => congrArg (· + 1) (Fits.length ks cs h.2)
  | [], _ :: _, h => h.elim
  | some _ :: _, [], h => h.elim
  | none :: _, [], h => h.elim

theorem rows_of_trod {H : Type} {enc : TypeId × Value → H} {P : Program} {w : World} {held : Bool} {t e : TypeId} {fuel : Nat} {a : Option Addr} {len cap : Nat} {x : DataW H × List MemPlace} (ks : List (Option IntKind))
    (ht : P.underlying t = some (.slice e)) (h : DataW.trod enc P w 0 (fun _ => true) held fuel t [.slice a len cap] = some x)
    (hel : ∀ m cs y, DataW.trod enc P w 0 (fun _ => true) held m e cs = some y → Fits ks cs) : IsRowsF w a len cap (P.cellsOf e) ks := by
  rcases Go.Deep.open_slice ht h with ⟨h0, _⟩ | ⟨x', l, c, m, n, D, Pl, hcs, _, hl, hm, hmm, _, hx⟩
  · simp at h0
    exact .inl h0
  · simp at hcs
    obtain ⟨rfl, rfl, rfl⟩ := hcs
    refine .inr ⟨_, rfl, hl, hm, fun i hi => ?_⟩
    obtain ⟨cs, h1, h2⟩ := hx i (by simpa [hmm] using hi)
    exact ⟨cs, h1, hel _ _ _ h2⟩

theorem IsRowsF.plain {w : World} {a : Option Addr} {len cap n : Nat} {ks : List (Option IntKind)} (h : IsRowsF w a len cap n ks) (hn : 0 < n) :
    (len = 0) ∨ (0 < len ∧ len ≤ maxLen ∧ ∃ b off, a = some ⟨b, off, none⟩ ∧ b < w.heap.size ∧ ∀ i, i < len → ∃ cs, Fits ks cs ∧ cs.length = n ∧ ∀ j, j < n → w.cell? ⟨b, off + (i * n + j), none⟩ = cs[j]?) := by
  rcases h with ⟨rfl, rfl, rfl⟩ | ⟨x, rfl, hl, hm, hx⟩
  · exact .inl rfl
  · by_cases h0 : len = 0
    · exact .inl h0
    · refine .inr ⟨by omega, by omega, ?_⟩
      obtain ⟨cs0, hc0, hf0⟩ := hx 0 (by omega)
      obtain ⟨_, hlen0, hat0⟩ := World.cells?_some hc0
      have hc := hat0 0 hn
      rw [List.getElem?_eq_getElem (by omega)] at hc
      obtain ⟨b, off, spot⟩ := x
      obtain ⟨h1, h2⟩ := cell_plain hc
      have hspot : spot = none := by simpa [Addr.add] using h1
      subst hspot
      refine ⟨b, off, rfl, by simpa [Addr.add] using h2, fun i hi => ?_⟩
      obtain ⟨cs, hc, hf⟩ := hx i (by omega)
      obtain ⟨_, hlen, hat⟩ := World.cells?_some hc
      refine ⟨cs, hf, hlen, fun j hj => ?_⟩
      have := hat j hj
      rwa [addr_add, addr_add, Nat.add_assoc] at this

theorem pair_of_trod {H : Type} {enc : TypeId × Value → H} {P : Program} {w : World} {base : Nat} {spare : Nat → Bool} {held : Bool} {t e : TypeId} {k : IntKind} {fuel : Nat} {cs : List Value} {x : DataW H × List MemPlace}
    (ht : P.underlying t = some (.array 2 e)) (he : P.underlying e = some (.int k)) (hc : P.cellsOf e = 1) (hct : P.cellsOf t = 2) (h : DataW.trod enc P w base spare held fuel t cs = some x) : Fits [some k, some k] cs := by
  obtain ⟨xs, m, _, _, hlen, hxs, hf⟩ := DataW.trod_array ht h
  rw [hct] at hlen
  match cs, hlen with
  | [c0, c1], _ =>
    have h0 := hf 0 (by omega)
    have h1 := hf 1 (by omega)
    rw [hc, List.getElem?_eq_getElem (by omega)] at h0 h1
    obtain ⟨m0, e0, _, w0⟩ := DataW.trod_int he h0
    obtain ⟨m1, e1, _, w1⟩ := DataW.trod_int he h1
    simp at e0 e1
    exact ⟨⟨m0, e0, w0⟩, ⟨m1, e1, w1⟩, trivial⟩

end Go.Proofs.Ytikkmdbaekdolaa

/- SLICES OF ELEMENTS THAT CAME IN, of any form: each element's cells meet a condition. -/
namespace Go.Proofs.Ytikkmdbaekdolaa
open Go.ChangeShapes Go.WideShapes Go.ChangeAt Go.RowKit
set_option linter.unusedVariables false
set_option maxRecDepth 100000

/-- nil, or a row of 'cap' elements of n cells each, that meet Pr -/
def IsRowsP (w : World) (a : Option Addr) (len cap n : Nat) (Pr : List Value → Prop) : Prop :=
  (a = none ∧ len = 0 ∧ cap = 0) ∨ ∃ x, a = some x ∧ len ≤ cap ∧ cap ≤ maxLen ∧ ∀ i, i < cap → ∃ cs, w.cells? 0 (x.add (i * n)) n = some cs ∧ Pr cs

theorem rowsP_of_trod {H : Type} {enc : TypeId × Value → H} {P : Program} {w : World} {held : Bool} {t e : TypeId} {fuel : Nat} {a : Option Addr} {len cap : Nat} {x : DataW H × List MemPlace} (Pr : List Value → Prop)
    (ht : P.underlying t = some (.slice e)) (h : DataW.trod enc P w 0 (fun _ => true) held fuel t [.slice a len cap] = some x)
    (hel : ∀ m cs y, DataW.trod enc P w 0 (fun _ => true) held m e cs = some y → Pr cs) : IsRowsP w a len cap (P.cellsOf e) Pr := by
  rcases Go.Deep.open_slice ht h with ⟨h0, _⟩ | ⟨x', l, c, m, n, D, Pl, hcs, _, hl, hm, hmm, _, hx⟩
  · simp at h0
    exact .inl h0
  · simp at hcs
    obtain ⟨rfl, rfl, rfl⟩ := hcs
    refine .inr ⟨_, rfl, hl, hm, fun i hi => ?_⟩
    obtain ⟨cs, h1, h2⟩ := hx i (by simpa [hmm] using hi)
    exact ⟨cs, h1, hel _ _ _ h2⟩

theorem IsRowsP.plain {w : World} {a : Option Addr} {len cap n : Nat} {Pr : List Value → Prop} (h : IsRowsP w a len cap n Pr) (hn : 0 < n) :
    (len = 0 ∧ len ≤ cap ∧ cap ≤ maxLen) ∨ (0 < len ∧ len ≤ cap ∧ cap ≤ maxLen ∧ ∃ b off, a = some ⟨b, off, none⟩ ∧ b < w.heap.size ∧ ∀ i, i < len → ∃ cs, Pr cs ∧ cs.length = n ∧ ∀ j, j < n → w.cell? ⟨b, off + (i * n + j), none⟩ = cs[j]?) := by
  rcases h with ⟨rfl, rfl, rfl⟩ | ⟨x, rfl, hl, hm, hx⟩
  · exact .inl ⟨rfl, Nat.le_refl _, by simp [maxLen]⟩
  · by_cases h0 : len = 0
    · exact .inl ⟨h0, hl, hm⟩
    · refine .inr ⟨by omega, hl, hm, ?_⟩
      obtain ⟨cs0, hc0, hf0⟩ := hx 0 (by omega)
      obtain ⟨_, hlen0, hat0⟩ := World.cells?_some hc0
      have hc := hat0 0 hn
      rw [List.getElem?_eq_getElem (by omega)] at hc
      obtain ⟨b, off, spot⟩ := x
      obtain ⟨h1, h2⟩ := cell_plain hc
      have hspot : spot = none := by simpa [Addr.add] using h1
      subst hspot
      refine ⟨b, off, rfl, by simpa [Addr.add] using h2, fun i hi => ?_⟩
      obtain ⟨cs, hc, hf⟩ := hx i (by omega)
      obtain ⟨_, hlen, hat⟩ := World.cells?_some hc
      refine ⟨cs, hf, hlen, fun j hj => ?_⟩
      have := hat j hj
      rwa [addr_add, addr_add, Nat.add_assoc] at this

/-- a list of what the elements are -/
theorem list_of {α : Type} (z : α) (Q : Nat → α → Prop) : ∀ n, (∀ i, i < n → ∃ x, Q i x) → ∃ l : List α, l.length = n ∧ ∀ i, i < n → Q i (l.getD i z)
  | 0, _ => ⟨[], rfl, fun i hi => absurd hi (by omega)⟩
  | n + 1, h => by
    obtain ⟨l, h1, h2⟩ := list_of z Q n (fun i hi => h i (by omega))
    obtain ⟨x, hx⟩ := h n (by omega)
    refine ⟨l ++ [x], by simp [h1], fun i hi => ?_⟩
    by_cases e : i = n
    · subst e
      rw [List.getD_eq_getElem?_getD, List.getElem?_append_right (by omega), h1, Nat.sub_self]
      exact hx
    · rw [List.getD_eq_getElem?_getD, List.getElem?_append_left (by omega), ← List.getD_eq_getElem?_getD]
      exact h2 i (by omega)

end Go.Proofs.Ytikkmdbaekdolaa

/- a packet that came in as an argument. -/
namespace Go.Proofs.Ytikkmdbaekdolaa
open Go.ChangeShapes Go.WideShapes Go.ChangeAt Go.RowKit
set_option linter.unusedVariables false
set_option maxRecDepth 100000

theorem open_data {H : Type} {enc : TypeId × Value → H} {w : World} {fuel : Nat} {cs : List Value} {x : DataW H × List MemPlace}
    (h : DataW.trod enc Try.prog w 0 (fun _ => true) true fuel 82 cs = some x) :
    ∃ (pn least off nonce ecn : Int) (a : Option Addr) (len cap : Nat) (z : List Int), cs = [.int .u64 pn, .int .u64 least, .int .u64 off, .int .u64 nonce, .int .i64 ecn, .slice a len cap] ∧
      W64 pn ∧ W64 least ∧ W64 off ∧ W64 nonce ∧ (-9223372036854775808 ≤ ecn ∧ ecn ≤ 9223372036854775807) ∧ IsRow .u8 w a len cap z := by
  obtain ⟨xs, n, _, _, hlen, hxs, hf⟩ := DataW.trod_struct Try.underlying82 h
  rw [show Try.prog.cellsOf 82 = 6 from by kernel_rfl] at hlen
  have hx6 : xs.length = 6 := hxs
  obtain ⟨c0, c1, c2, c3, c4, c5, rfl⟩ : ∃ c0 c1 c2 c3 c4 c5, cs = [c0, c1, c2, c3, c4, c5] := by
    rcases cs with _ | ⟨c0, _ | ⟨c1, _ | ⟨c2, _ | ⟨c3, _ | ⟨c4, _ | ⟨c5, _ | ⟨c6, cs⟩⟩⟩⟩⟩⟩⟩
    iterate 6 (· simp at hlen)
    · exact ⟨_, _, _, _, _, _, rfl⟩
    · simp at hlen
  have g0 : DataW.trod enc Try.prog w 0 (fun _ => true) true n 22 (([c0, c1, c2, c3, c4, c5].drop 0).take (Try.prog.cellsOf 22)) = some (xs[0]'(by omega)) := (hf 0 _ rfl).trans (List.getElem?_eq_getElem (by omega))
  have g1 : DataW.trod enc Try.prog w 0 (fun _ => true) true n 22 (([c0, c1, c2, c3, c4, c5].drop 1).take (Try.prog.cellsOf 22)) = some (xs[1]'(by omega)) := (hf 1 _ rfl).trans (List.getElem?_eq_getElem (by omega))
  have g2 : DataW.trod enc Try.prog w 0 (fun _ => true) true n 22 (([c0, c1, c2, c3, c4, c5].drop 2).take (Try.prog.cellsOf 22)) = some (xs[2]'(by omega)) := (hf 2 _ rfl).trans (List.getElem?_eq_getElem (by omega))
  have g3 : DataW.trod enc Try.prog w 0 (fun _ => true) true n 22 (([c0, c1, c2, c3, c4, c5].drop 3).take (Try.prog.cellsOf 22)) = some (xs[3]'(by omega)) := (hf 3 _ rfl).trans (List.getElem?_eq_getElem (by omega))
  have g4 : DataW.trod enc Try.prog w 0 (fun _ => true) true n 3 (([c0, c1, c2, c3, c4, c5].drop 4).take (Try.prog.cellsOf 3)) = some (xs[4]'(by omega)) := (hf 4 _ rfl).trans (List.getElem?_eq_getElem (by omega))
  have g5 : DataW.trod enc Try.prog w 0 (fun _ => true) true n 44 (([c0, c1, c2, c3, c4, c5].drop 5).take (Try.prog.cellsOf 44)) = some (xs[5]'(by omega)) := (hf 5 _ rfl).trans (List.getElem?_eq_getElem (by omega))
  rw [show Try.prog.cellsOf 22 = 1 from by kernel_rfl] at g0 g1 g2 g3
  rw [show Try.prog.cellsOf 3 = 1 from by kernel_rfl] at g4
  rw [show Try.prog.cellsOf 44 = 1 from by kernel_rfl] at g5
  simp only [List.drop_zero, List.drop_succ_cons, List.take_succ_cons, List.take_zero] at g0 g1 g2 g3 g4 g5
  obtain ⟨pn, e0, _, h0⟩ := DataW.trod_int Try.underlying22 g0
  obtain ⟨least, e1, _, h1⟩ := DataW.trod_int Try.underlying22 g1
  obtain ⟨off, e2, _, h2⟩ := DataW.trod_int Try.underlying22 g2
  obtain ⟨nonce, e3, _, h3⟩ := DataW.trod_int Try.underlying22 g3
  obtain ⟨ecn, e4, _, h4⟩ := DataW.trod_int Try.underlying3 g4
  cases e0; cases e1; cases e2; cases e3; cases e4
  rcases open_ints Try.underlying44 Try.underlying5 (by kernel_rfl) g5 with ⟨e5, _⟩ | ⟨a, len, cap, zs, e5, _, hl, hm, hz, _, hcell, hwz⟩
  · cases e5
    exact ⟨_, _, _, _, _, none, 0, 0, [], rfl, wfU64 h0, wfU64 h1, wfU64 h2, wfU64 h3, wfI64 h4, .inl ⟨rfl, rfl, rfl, rfl⟩⟩
  · cases e5
    exact ⟨_, _, _, _, _, some a, len, cap, zs, rfl, wfU64 h0, wfU64 h1, wfU64 h2, wfU64 h3, wfI64 h4, .inr ⟨a, rfl, hl, hm, by simpa using hz, hcell, hwz⟩⟩

end Go.Proofs.Ytikkmdbaekdolaa

/- rows of packets that came in as arguments; rows of what was sent. -/
namespace Go.Proofs.Ytikkmdbaekdolaa
open Go.ChangeShapes Go.WideShapes Go.ChangeAt Go.RowKit
set_option linter.unusedVariables false
set_option maxRecDepth 100000

def DataIs (cs : List Value) : Prop := ∃ d : DatP, cs = [.int .u64 d.pn, .int .u64 d.least, .int .u64 d.off, .int .u64 d.x, .int .i64 d.ecn, .slice d.a d.L d.c] ∧ W64 d.pn ∧ d.L ≤ 9223372036854775807
theorem came_of {H : Type} {enc : TypeId × Value → H} {w : World} {fuel : Nat} {a : Option Addr} {len cap : Nat} {x : DataW H × List MemPlace}
    (h : DataW.trod enc Try.prog w 0 (fun _ => true) true fuel 71 [.slice a len cap] = some x) :
    ∃ l : List DatP, l.length = len ∧ CFit l ∧ (a = none → l = []) ∧ CRow w a l ∧ len ≤ cap ∧ cap ≤ 9223372036854775807 := by
  have hr := rowsP_of_trod DataIs Try.underlying71 h (fun m cs y hy => by
    obtain ⟨pn, least, off, nonce, ecn, a, len, cap, z, rfl, h0, _, _, _, _, hz⟩ := open_data hy
    refine ⟨⟨pn, least, off, nonce, ecn, a, len, cap⟩, rfl, h0, ?_⟩
    rcases hz with ⟨_, rfl, _⟩ | ⟨_, _, h1, h2, _⟩
    · simp
    · unfold maxLen at h2
      show len ≤ 9223372036854775807
      omega)
  rw [show Try.prog.cellsOf 82 = 6 from by kernel_rfl] at hr
  rcases hr.plain (by omega) with ⟨rfl, h1, h2⟩ | ⟨h0, h1, h2, b, off, rfl, hb, hx⟩
  · unfold maxLen at h2
    exact ⟨[], rfl, fun i hi => absurd hi (by simp), fun _ => rfl, .inl rfl, h1, by omega⟩
  · unfold maxLen at h2
    obtain ⟨l, hl, hq⟩ := list_of zD (fun i (d : DatP) => W64 d.pn ∧ d.L ≤ 9223372036854775807 ∧ w.cell? ⟨b, off + i * 6, none⟩ = some (.int .u64 d.pn) ∧ w.cell? ⟨b, off + i * 6 + 1, none⟩ = some (.int .u64 d.least) ∧ w.cell? ⟨b, off + i * 6 + 2, none⟩ = some (.int .u64 d.off) ∧
      w.cell? ⟨b, off + i * 6 + 3, none⟩ = some (.int .u64 d.x) ∧ w.cell? ⟨b, off + i * 6 + 4, none⟩ = some (.int .i64 d.ecn) ∧ w.cell? ⟨b, off + i * 6 + 5, none⟩ = some (.slice d.a d.L d.c)) len (fun i hi => by
      obtain ⟨cs, ⟨d, rfl, p1, p2⟩, hl, hc⟩ := hx i hi
      have q0 := hc 0 (by omega)
      have q1 := hc 1 (by omega)
      have q2 := hc 2 (by omega)
      have q3 := hc 3 (by omega)
      have q4 := hc 4 (by omega)
      have q5 := hc 5 (by omega)
      refine ⟨d, p1, p2, ?_, ?_, ?_, ?_, ?_, ?_⟩
      · simpa using q0
      · simpa [Nat.add_assoc] using q1
      · simpa [Nat.add_assoc] using q2
      · simpa [Nat.add_assoc] using q3
      · simpa [Nat.add_assoc] using q4
      · simpa [Nat.add_assoc] using q5)
    subst hl
    exact ⟨l, rfl, fun i hi => ⟨(hq i hi).1, (hq i hi).2.1⟩, (fun h => by cases h), .inr ⟨b, off, rfl, hb, fun i hi => (hq i hi).2.2⟩, h1, by omega⟩

theorem sent_of {H : Type} {enc : TypeId × Value → H} {w : World} {fuel : Nat} {a : Option Addr} {len cap : Nat} {x : DataW H × List MemPlace}
    (h : DataW.trod enc Try.prog w 0 (fun _ => true) true fuel 85 [.slice a len cap] = some x) :
    ∃ l : List SentP, l.length = len ∧ (∀ i, i < l.length → W64 (l.getD i zS).nonce) ∧ SentRow w a l ∧ len ≤ 9223372036854775807 := by
  have hr := rowsP_of_trod (Fits [some .u64, some .u64, some .u64, some .u64, some .u64, none, none, some .i64]) Try.underlying85 h (fun m cs y hy => fits_of_trod 8 88 _ m _ _ (by kernel_rfl) hy)
  rw [show Try.prog.cellsOf 88 = 8 from by kernel_rfl] at hr
  rcases hr.plain (by omega) with ⟨rfl, h1, h2⟩ | ⟨h0, h1, h2, b, off, rfl, hb, hx⟩
  · exact ⟨[], rfl, fun i hi => absurd hi (by simp), .inl rfl, by omega⟩
  · unfold maxLen at h2
    obtain ⟨l, hl, hq⟩ := list_of zS (fun i (d : SentP) => W64 d.nonce ∧ w.cell? ⟨b, off + i * 8, none⟩ = some (.int .u64 d.pn) ∧ w.cell? ⟨b, off + i * 8 + 1, none⟩ = some (.int .u64 d.off) ∧ w.cell? ⟨b, off + i * 8 + 2, none⟩ = some (.int .u64 d.len) ∧ w.cell? ⟨b, off + i * 8 + 3, none⟩ = some (.int .u64 d.nonce) ∧ w.cell? ⟨b, off + i * 8 + 4, none⟩ = some (.int .u64 d.at_) ∧ w.cell? ⟨b, off + i * 8 + 5, none⟩ = some (.bool d.coin) ∧ w.cell? ⟨b, off + i * 8 + 6, none⟩ = some (.bool d.used) ∧ w.cell? ⟨b, off + i * 8 + 7, none⟩ = some (.int .i64 d.state)) len (fun i hi => by
      obtain ⟨cs, hf, hl, hc⟩ := hx i hi
      match cs, hl with
      | [c0, c1, c2, c3, c4, c5, c6, c7], _ =>
        obtain ⟨⟨v0, e0, w0⟩, ⟨v1, e1, w1⟩, ⟨v2, e2, w2⟩, ⟨v3, e3, w3⟩, ⟨v4, e4, w4⟩, ⟨v5, e5⟩, ⟨v6, e6⟩, ⟨v7, e7, w7⟩, _⟩ := hf
        subst e0 e1 e2 e3 e4 e5 e6 e7
        have q0 := hc 0 (by omega)
        have q1 := hc 1 (by omega)
        have q2 := hc 2 (by omega)
        have q3 := hc 3 (by omega)
        have q4 := hc 4 (by omega)
        have q5 := hc 5 (by omega)
        have q6 := hc 6 (by omega)
        have q7 := hc 7 (by omega)
        refine ⟨⟨v0, v1, v2, v3, v4, v5, v6, v7⟩, wfU64 w3, ?_, ?_, ?_, ?_, ?_, ?_, ?_, ?_⟩
        · simpa using q0
        · simpa [Nat.add_assoc] using q1
        · simpa [Nat.add_assoc] using q2
        · simpa [Nat.add_assoc] using q3
        · simpa [Nat.add_assoc] using q4
        · simpa [Nat.add_assoc] using q5
        · simpa [Nat.add_assoc] using q6
        · simpa [Nat.add_assoc] using q7)
    subst hl
    exact ⟨l, rfl, fun i hi => (hq i hi).1, .inr ⟨b, off, rfl, hb, fun i hi => (hq i hi).2⟩, by omega⟩

end Go.Proofs.Ytikkmdbaekdolaa

/- append of a slice that may be nil, onto one of the call's own: where the new one lies is told. -/
namespace Go.Proofs.Ytikkmdbaekdolaa
open Go.RowKit
set_option linter.unusedVariables false
set_option maxRecDepth 100000

section
variable {P : Program} (w : World)

theorem run_append_none (base : Nat) (t ty e : TypeId) (i : TypeInfo) (size : Nat) (ht : P.underlying t = some (.slice e)) (hi : P.info? e = some i) (v : Value) (n : Nat) (xs : List Value) (hown : w.ownsRow base e size v n xs) (c : Nat) :
    (Builtin.append_ #[t, t] ty #[v, .slice none 0 c]).run P w = .ok v w := by
  rcases hown.2 with ⟨rfl, rfl⟩ | ⟨g, cap, cur, rfl, hbg, hg, hnc, hcm, hcs, htake⟩
  · simp [Builtin.append_, run_underlying ht, sizeOf, typeInfo, hi, Builtin.lenOf, Builtin.firstCells]
  · simp [Builtin.append_, run_underlying ht, sizeOf, typeInfo, hi, Builtin.lenOf, Builtin.firstCells, hnc, storeCells]

theorem run_append_any (base : Nat) (t ty e : TypeId) (i : TypeInfo) (z : Value) (size bytes : Nat) (ht : P.underlying t = some (.slice e)) (hi : P.info? e = some i) (hz : i.zero = some z)
    (hsize : i.size = size) (hby : i.bytes = bytes) (hzs : z.cells.size = size) (hsz : 0 < size)
    (v : Value) (n : Nat) (xs : List Value) (hown : w.ownsRow base e size v n xs)
    (x : Option Addr) (m c : Nat) (news : List Value) (hl : news.length = m * size) (hnews : (x = none ∧ m = 0) ∨ ∃ a, x = some a ∧ ∀ j u, news[j]? = some u → w.cell? (a.add j) = some u) (h1 : ∀ u ∈ news, u.oneCell' = true)
    (h63 : n + m ≤ maxLen) (hbytes : (n + m) * bytes ≤ 140737488355328) (hbase : base ≤ w.heap.size) :
    ∃ v' w', (Builtin.append_ #[t, t] ty #[v, .slice x m c]).run P w = .ok v' w' ∧ w'.ownsRow base e size v' (n + m) (xs ++ news) ∧ w.grownBy w' v.ownBlock ∧ (v'.ownBlock = v.ownBlock ∨ v'.ownBlock = some w.heap.size) := by
  rcases hnews with ⟨rfl, rfl⟩ | ⟨a, rfl, hn⟩
  · have e0 : news = [] := List.eq_nil_of_length_eq_zero (by simpa using hl)
    subst e0
    exact ⟨v, w, run_append_none w base t ty e i size ht hi v n xs hown c, by simpa using hown, ⟨rfl, rfl, rfl, Nat.le_refl _, fun _ _ _ => rfl⟩, .inl rfl⟩
  · obtain ⟨v', w', h2, h3, h4, _, h5⟩ := run_append_own_at w base t ty e i z size bytes ht hi hz hsize hby hzs hsz v n xs hown a m c news hl hn h1 h63 hbytes hbase
    exact ⟨v', w', h2, h3, h4, h5⟩

theorem wpList_append_any {ops : Array Oper} {rest : List Oper} {o : Oper} {a : Act} {Q : Exit → Act → World → Prop} (hgd : o.guard = none) (s x : Operand) (t : TypeId)
    (ho : o.op = .call { callee := .builtin .append, args := #[s, x], argTypes := #[t, t] })
    (base : Nat) (e : TypeId) (i : TypeInfo) (z : Value) (size bytes : Nat) (ht : P.underlying t = some (.slice e)) (hi : P.info? e = some i) (hz : i.zero = some z)
    (hsize : i.size = size) (hby : i.bytes = bytes) (hzs : z.cells.size = size) (hsz : 0 < size)
    (v : Value) (n : Nat) (xs : List Value) (hs : a.eval s = v) (hown : w.ownsRow base e size v n xs)
    (ad : Option Addr) (m c : Nat) (news : List Value) (hx : a.eval x = .slice ad m c) (hl : news.length = m * size) (hnews : (ad = none ∧ m = 0) ∨ ∃ a, ad = some a ∧ ∀ j u, news[j]? = some u → w.cell? (a.add j) = some u) (h1 : ∀ u ∈ news, u.oneCell' = true)
    (h63 : n + m ≤ maxLen) (hbytes : (n + m) * bytes ≤ 140737488355328) (hbase : base ≤ w.heap.size)
    (h : ∀ v' w', w'.ownsRow base e size v' (n + m) (xs ++ news) → w.grownBy w' v.ownBlock → (v'.ownBlock = v.ownBlock ∨ v'.ownBlock = some w.heap.size) → wpList P ops Q rest (a.put o.dst v') w') :
    wpList P ops Q (o :: rest) a w := by
  refine wpList_plain hgd fun K hK => ?_
  obtain ⟨v', w', hr, h2, h3, h4⟩ := run_append_any (P := P) w base t o.type e i z size bytes ht hi hz hsize hby hzs hsz v n xs hown ad m c news hl hnews h1 h63 hbytes hbase
  unfold Oper.wp execOp
  simp only [ho, resolve, invoke, builtin, Sem.run_bind, Sem.run_pure, Result.andThen_ok, List.map_toArray, List.map_cons, List.map_nil, hs, hx, hr]
  exact hK _ _ (h v' w' h2 h3 h4)

end
end Go.Proofs.Ytikkmdbaekdolaa

/- an acknowledgment that came in as an argument. -/
namespace Go.Proofs.Ytikkmdbaekdolaa
open Go.ChangeShapes Go.WideShapes Go.ChangeAt Go.RowKit
set_option linter.unusedVariables false
set_option maxRecDepth 100000

theorem spans_of (w : World) (b off : Nat) : ∀ n, (∀ i, i < n → ∃ lo hi, W64 lo ∧ W64 hi ∧ w.cell? ⟨b, off + i * 2, none⟩ = some (.int .u64 lo) ∧ w.cell? ⟨b, off + i * 2 + 1, none⟩ = some (.int .u64 hi)) →
    ∃ l : List (Int × Int), l.length = n ∧ (∀ s ∈ l, W64 s.1 ∧ W64 s.2) ∧ ∀ i, i < n → w.cell? ⟨b, off + i * 2, none⟩ = some (.int .u64 (l.getD i (0, 0)).1) ∧ w.cell? ⟨b, off + i * 2 + 1, none⟩ = some (.int .u64 (l.getD i (0, 0)).2)
  | 0, _ => ⟨[], rfl, fun s hs => absurd hs (by simp), fun i hi => absurd hi (by omega)⟩
  | n + 1, h => by
    obtain ⟨l, h1, h2, h3⟩ := spans_of w b off n (fun i hi => h i (by omega))
    obtain ⟨lo, hi, a1, a2, a3, a4⟩ := h n (by omega)
    refine ⟨l ++ [(lo, hi)], by simp [h1], fun s hs => ?_, fun i hi' => ?_⟩
    · simp only [List.mem_append, List.mem_singleton] at hs
      rcases hs with hs | rfl
      · exact h2 s hs
      · exact ⟨a1, a2⟩
    · by_cases e : i = n
      · subst e
        rw [List.getD_eq_getElem?_getD, List.getElem?_append_right (by omega), h1, Nat.sub_self]
        exact ⟨a3, a4⟩
      · rw [List.getD_eq_getElem?_getD, List.getElem?_append_left (by omega), ← List.getD_eq_getElem?_getD]
        exact h3 i (by omega)

theorem open_spans {H : Type} {enc : TypeId × Value → H} {w : World} {fuel : Nat} {c : Value} {x : DataW H × List MemPlace}
    (h : DataW.trod enc Try.prog w 0 (fun _ => true) true fuel 72 [c] = some x) :
    ∃ (a : Option Addr) (cap : Nat) (l : List (Int × Int)), c = .slice a l.length cap ∧ SRow w a l ∧ (∀ s ∈ l, W64 s.1 ∧ W64 s.2) ∧ l.length ≤ 9223372036854775807 := by
  obtain ⟨a, len, cap, rfl⟩ : ∃ a len cap, c = .slice a len cap := by
    rcases Go.Deep.open_slice Try.underlying72 h with ⟨h0, _⟩ | ⟨x', l, c', m, n, D, Pl, hcs, _⟩
    · simp at h0
      exact ⟨_, _, _, h0⟩
    · simp at hcs
      exact ⟨_, _, _, hcs⟩
  have hr := rows_of_trod [some .u64, some .u64] Try.underlying72 h (fun m cs y hy => fits_of_trod 8 80 _ m _ _ (by kernel_rfl) hy)
  rw [show Try.prog.cellsOf 80 = 2 from by kernel_rfl] at hr
  rcases hr.plain (by omega) with rfl | ⟨h0, hm, b, off, rfl, hb, hx⟩
  · exact ⟨a, cap, [], rfl, .inl rfl, fun s hs => absurd hs (by simp), by simp⟩
  · obtain ⟨l, h1, h2, h3⟩ := spans_of w b off len (fun i hi => by
      obtain ⟨cs, hf, hl, hc⟩ := hx i hi
      match cs, hl with
      | [c0, c1], _ =>
        obtain ⟨⟨lo, e0, w0⟩, ⟨hi, e1, w1⟩, _⟩ := hf
        have q0 := hc 0 (by omega)
        have q1 := hc 1 (by omega)
        subst e0 e1
        exact ⟨lo, hi, wfU64 w0, wfU64 w1, by simpa using q0, by simpa [Nat.add_assoc] using q1⟩)
    subst h1
    unfold maxLen at hm
    exact ⟨_, cap, l, rfl, .inr ⟨b, off, rfl, hb, h3⟩, h2, by omega⟩

theorem open_ack {H : Type} {enc : TypeId × Value → H} {w : World} {fuel : Nat} {cs : List Value} {x : DataW H × List MemPlace}
    (h : DataW.trod enc Try.prog w 0 (fun _ => true) true fuel 74 cs = some x) :
    ∃ (a b : Option Addr) (ca cb : Nat) (l m : List (Int × Int)) (t r : Int) (p : Bool), cs = [.slice a l.length ca, .slice b m.length cb, .int .u64 t, .int .u64 r, .bool p] ∧
      SRow w a l ∧ SRow w b m ∧ ((∀ s ∈ l, W64 s.1 ∧ W64 s.2) ∧ l.length ≤ 9223372036854775807) ∧ ((∀ s ∈ m, W64 s.1 ∧ W64 s.2) ∧ m.length ≤ 9223372036854775807) ∧ W64 t ∧ W64 r := by
  obtain ⟨xs, n, _, _, hlen, hxs, hf⟩ := DataW.trod_struct Try.underlying74 h
  rw [show Try.prog.cellsOf 74 = 5 from by kernel_rfl] at hlen
  have hx5 : xs.length = 5 := hxs
  obtain ⟨c0, c1, c2, c3, c4, rfl⟩ : ∃ c0 c1 c2 c3 c4, cs = [c0, c1, c2, c3, c4] := by
    rcases cs with _ | ⟨c0, _ | ⟨c1, _ | ⟨c2, _ | ⟨c3, _ | ⟨c4, _ | ⟨c5, cs⟩⟩⟩⟩⟩⟩
    iterate 5 (· simp at hlen)
    · exact ⟨_, _, _, _, _, rfl⟩
    · simp at hlen
  have g0 : DataW.trod enc Try.prog w 0 (fun _ => true) true n 72 (([c0, c1, c2, c3, c4].drop 0).take (Try.prog.cellsOf 72)) = some (xs[0]'(by omega)) := (hf 0 _ rfl).trans (List.getElem?_eq_getElem (by omega))
  have g1 : DataW.trod enc Try.prog w 0 (fun _ => true) true n 72 (([c0, c1, c2, c3, c4].drop 1).take (Try.prog.cellsOf 72)) = some (xs[1]'(by omega)) := (hf 1 _ rfl).trans (List.getElem?_eq_getElem (by omega))
  have g2 : DataW.trod enc Try.prog w 0 (fun _ => true) true n 22 (([c0, c1, c2, c3, c4].drop 2).take (Try.prog.cellsOf 22)) = some (xs[2]'(by omega)) := (hf 2 _ rfl).trans (List.getElem?_eq_getElem (by omega))
  have g3 : DataW.trod enc Try.prog w 0 (fun _ => true) true n 22 (([c0, c1, c2, c3, c4].drop 3).take (Try.prog.cellsOf 22)) = some (xs[3]'(by omega)) := (hf 3 _ rfl).trans (List.getElem?_eq_getElem (by omega))
  have g4 : DataW.trod enc Try.prog w 0 (fun _ => true) true n 4 (([c0, c1, c2, c3, c4].drop 4).take (Try.prog.cellsOf 4)) = some (xs[4]'(by omega)) := (hf 4 _ rfl).trans (List.getElem?_eq_getElem (by omega))
  rw [show Try.prog.cellsOf 72 = 1 from by kernel_rfl] at g0 g1
  rw [show Try.prog.cellsOf 22 = 1 from by kernel_rfl] at g2 g3
  rw [show Try.prog.cellsOf 4 = 1 from by kernel_rfl] at g4
  simp only [List.drop_zero, List.drop_succ_cons, List.take_succ_cons, List.take_zero] at g0 g1 g2 g3 g4
  obtain ⟨t, e2, _, h2⟩ := DataW.trod_int Try.underlying22 g2
  obtain ⟨r, e3, _, h3⟩ := DataW.trod_int Try.underlying22 g3
  obtain ⟨p, e4, _⟩ := DataW.trod_bool Try.underlying4 g4
  cases e2; cases e3; cases e4
  obtain ⟨a, ca, l, rfl, sa, wa, la⟩ := open_spans g0
  obtain ⟨b, cb, m, rfl, sb, wb, lb⟩ := open_spans g1
  exact ⟨a, b, ca, cb, l, m, t, r, p, rfl, sa, sb, ⟨wa, la⟩, ⟨wb, lb⟩, wfU64 h2, wfU64 h3⟩

end Go.Proofs.Ytikkmdbaekdolaa

