/- rows of fates and of datagrams that came in as arguments, within the machine's reach. -/
import Derived.Test.YtikkmdbaekdolaaRowsP
import Derived.Test.YtikkmdbaekdolaaPath0
import Derived.SizedLaws
namespace Go.Proofs.Ytikkmdbaekdolaa
open Go.ChangeShapes Go.WideShapes Go.ChangeAt Go.RowKit
set_option linter.unusedVariables false
set_option maxRecDepth 100000

theorem weights_mem_all {H : Type} {P : Program} {e : TypeId} : ∀ {l : List (DataW H)} {d : DataW H}, d ∈ l → ∀ n ∈ d.weights P e, n ∈ DataW.weightsAll P e l
  | [], d, hd, n, hn => by cases hd
  | d' :: l, d, hd, n, hn => by
    unfold DataW.weightsAll
    rcases List.mem_cons.1 hd with rfl | h
    · exact List.mem_append_left _ hn
    · exact List.mem_append_right _ (weights_mem_all h n hn)
/-- one argument's weights, of all -/
theorem sized_one {H : Type} {P : Program} {ts : List TypeId} {ds : List (DataW H)} (h : (DataW.weightsEach P ts ds).all (· ≤ reachBytes) = true) {j : Nat} {t : TypeId} {d : DataW H} (ht : ts[j]? = some t) (hd : ds[j]? = some d) : (d.weights P t).all (· ≤ reachBytes) = true :=
  List.all_eq_true.2 fun n hn => List.all_eq_true.1 h n (DataW.weights_mem_each ht hd n hn)

theorem rowsP_sized {H : Type} {enc : TypeId × Value → H} {P : Program} {w : World} {held : Bool} {t e : TypeId} {fuel : Nat} {a : Option Addr} {len cap : Nat} {x : DataW H × List MemPlace} (Pr : List Value → Prop)
    (ht : P.underlying t = some (.slice e)) (h : DataW.trod enc P w 0 (fun _ => true) held fuel t [.slice a len cap] = some x) (hw : (x.1.weights P t).all (· ≤ reachBytes) = true)
    (hel : ∀ m cs y, DataW.trod enc P w 0 (fun _ => true) held m e cs = some y → (y.1.weights P e).all (· ≤ reachBytes) = true → Pr cs) : IsRowsP w a len cap (P.cellsOf e) Pr ∧ cap * P.bytesOf e ≤ reachBytes := by
  rcases Go.Deep.open_slice ht h with ⟨h0, _⟩ | ⟨x', l, c, m, n, D, Pl, hcs, _, hl, hm, hmm, hxx, hx⟩
  · simp at h0
    obtain ⟨rfl, rfl, rfl⟩ := h0
    exact ⟨.inl ⟨rfl, rfl, rfl⟩, by simp⟩
  · simp at hcs
    obtain ⟨rfl, rfl, rfl⟩ := hcs
    have hmc : m = cap := by simpa using hmm
    subst hmc
    rw [hxx] at hw
    simp only [DataW.weights, ht] at hw
    have hall := List.all_eq_true.1 hw
    refine ⟨.inr ⟨_, rfl, hl, hm, fun i hi => ?_⟩, ?_⟩
    · obtain ⟨cs, h1, h2⟩ := hx i hi
      refine ⟨cs, h1, hel _ _ _ h2 (List.all_eq_true.2 fun n hn => hall n ?_)⟩
      refine List.mem_cons_of_mem _ ?_
      by_cases hil : i < len
      · exact List.mem_append_left _ (weights_mem_all (List.mem_map.2 ⟨i, List.mem_range.2 hil, rfl⟩) n hn)
      · exact List.mem_append_right _ (weights_mem_all (List.mem_map.2 ⟨i - len, List.mem_range.2 (by omega), by show D (len + (i - len)) = D i; rw [Nat.add_sub_cancel' (by omega)]⟩) n hn)
    · have := hall _ (List.mem_cons_self ..)
      simp at this
      rw [show len + (m - len) = m by omega] at this
      exact this

theorem body_of_row {w : World} {a : Option Addr} {len cap : Nat} {z : List Int} (h : IsRow .u8 w a len cap z) : ∃ bs, BodyAt w (.slice a len cap) bs ∧ (∀ x ∈ bs, 0 ≤ x ∧ x ≤ 255) ∧ bs.length ≤ cap := by
  rcases h with ⟨rfl, rfl, rfl, rfl⟩ | ⟨x, rfl, hl, hm, hz, hc, hw⟩
  · exact ⟨[], .inl ⟨none, 0, rfl, fun _ => rfl, rfl⟩, by simp, by simp⟩
  · by_cases h0 : len = 0
    · subst h0
      exact ⟨[], .inl ⟨some x, cap, rfl, (fun e => by cases e), rfl⟩, by simp, by simp⟩
    · obtain ⟨b, off, spot⟩ := x
      have h1 := hc 0 (by omega)
      obtain ⟨p1, p2⟩ := cell_plain h1
      have hs : spot = none := by simpa [Addr.add] using p1
      subst hs
      have ht : (z.take len).length = len := by rw [List.length_take]; omega
      refine ⟨z.take len, .inr ⟨b, off, cap, by rw [ht], by omega, by omega, by unfold maxLen at hm; omega, by simpa [Addr.add] using p2, fun i hi => ?_⟩, fun y hy => wfU8 (hw y (List.mem_of_mem_take hy)), by omega⟩
      rw [ht] at hi
      have h2 := hc i (by omega)
      rw [addr_add] at h2
      rw [h2, List.getD_eq_getElem?_getD, List.getD_eq_getElem?_getD, List.getElem?_take, if_pos (by omega)]


theorem fates_of {H : Type} {enc : TypeId × Value → H} {w : World} {fuel : Nat} {a : Option Addr} {len cap : Nat} {x : DataW H × List MemPlace}
    (h : DataW.trod enc Try.prog w 0 (fun _ => true) true fuel 53 [.slice a len cap] = some x) (hw : (x.1.weights Try.prog 53).all (· ≤ reachBytes) = true) :
    ∃ l : List FateP, l.length = len ∧ (a = none → l = []) ∧ FRow w a l ∧ (∀ d ∈ l, W64 d.delay) ∧ l.length * 16 ≤ 140737488355328 := by
  obtain ⟨hr, hb⟩ := rowsP_sized (Fits [none, none, none, some .u64]) Try.underlying53 h hw (fun m cs y hy _ => fits_of_trod 8 119 _ m _ _ (by kernel_rfl) hy)
  rw [show Try.prog.cellsOf 119 = 4 from by kernel_rfl] at hr
  rw [show Try.prog.bytesOf 119 = 16 from by kernel_rfl] at hb
  unfold reachBytes at hb
  rcases hr.plain (by omega) with ⟨rfl, h1, h2⟩ | ⟨h0, h1, h2, b, off, rfl, hbl, hx⟩
  · exact ⟨[], rfl, fun _ => rfl, .inl rfl, fun d hd => absurd hd (by simp), by simp⟩
  · obtain ⟨l, hl, hq⟩ := list_of zF (fun i (d : FateP) => W64 d.delay ∧ w.cell? ⟨b, off + i * 4, none⟩ = some (.bool d.drop) ∧ w.cell? ⟨b, off + i * 4 + 1, none⟩ = some (.bool d.twice) ∧ w.cell? ⟨b, off + i * 4 + 2, none⟩ = some (.bool d.mark) ∧ w.cell? ⟨b, off + i * 4 + 3, none⟩ = some (.int .u64 d.delay)) len (fun i hi => by
      obtain ⟨cs, hf, hl, hc⟩ := hx i hi
      match cs, hl with
      | [c0, c1, c2, c3], _ =>
        obtain ⟨⟨v0, e0⟩, ⟨v1, e1⟩, ⟨v2, e2⟩, ⟨v3, e3, w3⟩, _⟩ := hf
        subst e0 e1 e2 e3
        have q0 := hc 0 (by omega)
        have q1 := hc 1 (by omega)
        have q2 := hc 2 (by omega)
        have q3 := hc 3 (by omega)
        exact ⟨⟨v0, v1, v2, v3⟩, wfU64 w3, by simpa using q0, by simpa [Nat.add_assoc] using q1, by simpa [Nat.add_assoc] using q2, by simpa [Nat.add_assoc] using q3⟩)
    subst hl
    refine ⟨l, rfl, (fun h => by cases h), .inr ⟨b, off, rfl, hbl, fun i hi => (hq i hi).2⟩, fun d hd => ?_, by omega⟩
    obtain ⟨i, hi, rfl⟩ := List.mem_iff_getElem.1 hd
    have := (hq i hi).1
    rwa [List.getD_eq_getElem?_getD, List.getElem?_eq_getElem hi] at this

/-- a datagram that is put -/
structure PutP where
  v : Value
  bs : List Int
  wait : Int
  ask : Bool
def zP : PutP := ⟨.slice none 0 0, [], 0, false⟩
structure PutOk (w : World) (d : PutP) : Prop where
  body : BodyAt w d.v d.bs
  byte : ∀ x ∈ d.bs, 0 ≤ x ∧ x ≤ 255
  len : d.bs.length ≤ 140737488351232
  wait : 0 ≤ d.wait ∧ d.wait ≤ 4294967295
def PutsAt (w : World) (g o : Nat) (l : List PutP) : Prop := g < w.heap.size ∧ ∀ i, i < l.length →
  w.cell? ⟨g, o + i * 3, none⟩ = some (l.getD i zP).v ∧ w.cell? ⟨g, o + i * 3 + 1, none⟩ = some (.int .u32 (l.getD i zP).wait) ∧ w.cell? ⟨g, o + i * 3 + 2, none⟩ = some (.bool (l.getD i zP).ask)
def PutsRow (w : World) (x : Option Addr) (l : List PutP) : Prop := (l = [] ∨ ∃ g o, x = some ⟨g, o, none⟩ ∧ PutsAt w g o l) ∧ ∀ d ∈ l, PutOk w d
theorem puts_of {H : Type} {enc : TypeId × Value → H} {w : World} {fuel : Nat} {a : Option Addr} {len cap : Nat} {x : DataW H × List MemPlace}
    (h : DataW.trod enc Try.prog w 0 (fun _ => true) true fuel 40 [.slice a len cap] = some x) (hw : (x.1.weights Try.prog 40).all (· ≤ reachBytes) = true) :
    ∃ l : List PutP, l.length = len ∧ PutsRow w a l ∧ len ≤ 9223372036854775807 := by
  obtain ⟨hr, hb⟩ := rowsP_sized (fun cs => ∃ d : PutP, cs = [d.v, .int .u32 d.wait, .bool d.ask] ∧ PutOk w d) Try.underlying40 h hw (fun m cs y hy hyw => by
    obtain ⟨xs, n, _, hyx, hlen, hxs, hf⟩ := DataW.trod_struct Try.underlying47 hy
    rw [show Try.prog.cellsOf 47 = 3 from by kernel_rfl] at hlen
    have hx3 : xs.length = 3 := hxs
    obtain ⟨c0, c1, c2, rfl⟩ : ∃ c0 c1 c2, cs = [c0, c1, c2] := by
      rcases cs with _ | ⟨c0, _ | ⟨c1, _ | ⟨c2, _ | ⟨c3, cs⟩⟩⟩⟩
      iterate 3 (· simp at hlen)
      · exact ⟨_, _, _, rfl⟩
      · simp at hlen
    have g0 : DataW.trod enc Try.prog w 0 (fun _ => true) true n 44 (([c0, c1, c2].drop 0).take (Try.prog.cellsOf 44)) = some (xs[0]'(by omega)) := (hf 0 _ rfl).trans (List.getElem?_eq_getElem (by omega))
    have g1 : DataW.trod enc Try.prog w 0 (fun _ => true) true n 45 (([c0, c1, c2].drop 1).take (Try.prog.cellsOf 45)) = some (xs[1]'(by omega)) := (hf 1 _ rfl).trans (List.getElem?_eq_getElem (by omega))
    have g2 : DataW.trod enc Try.prog w 0 (fun _ => true) true n 4 (([c0, c1, c2].drop 2).take (Try.prog.cellsOf 4)) = some (xs[2]'(by omega)) := (hf 2 _ rfl).trans (List.getElem?_eq_getElem (by omega))
    rw [show Try.prog.cellsOf 44 = 1 from by kernel_rfl] at g0
    rw [show Try.prog.cellsOf 45 = 1 from by kernel_rfl] at g1
    rw [show Try.prog.cellsOf 4 = 1 from by kernel_rfl] at g2
    simp only [List.drop_zero, List.drop_succ_cons, List.take_succ_cons, List.take_zero] at g0 g1 g2
    obtain ⟨wt, e1, _, h1⟩ := DataW.trod_int Try.underlying45 g1
    obtain ⟨ak, e2, _⟩ := DataW.trod_bool Try.underlying4 g2
    cases e1; cases e2
    have hww : ((xs[0]'(by omega)).1.weights Try.prog 44).all (· ≤ reachBytes) = true := by
      rw [hyx] at hyw
      simp only [DataW.weights, Try.underlying47] at hyw
      exact sized_one (j := 0) (t := 44) (d := (xs[0]'(by omega)).1) hyw rfl (by rw [List.getElem?_map, List.getElem?_eq_getElem (by omega)]; rfl)
    obtain ⟨a', len', cap', zs, e0, hz, hc'⟩ : ∃ a len cap zs, c0 = .slice a len cap ∧ IsRow .u8 w a len cap zs ∧ cap ≤ 140737488351232 := by
      rcases open_ints Try.underlying44 Try.underlying5 (by kernel_rfl) g0 with ⟨e, _⟩ | ⟨a, len, cap, zs, e, _, hl, hm, hz, hx, hcell, hwz⟩
      · cases e
        exact ⟨none, 0, 0, [], rfl, .inl ⟨rfl, rfl, rfl, rfl⟩, by omega⟩
      · cases e
        refine ⟨some a, len, cap, zs, rfl, .inr ⟨a, rfl, hl, hm, by simpa using hz, hcell, hwz⟩, ?_⟩
        have hd := (Prod.mk.inj hx).1
        rw [show (xs[0]'(by omega)).1 = _ from hd] at hww
        simp only [DataW.weights, Try.underlying44] at hww
        have hr := List.all_eq_true.1 hww _ (List.mem_cons_self ..)
        rw [show Try.prog.bytesOf 5 = 1 from by kernel_rfl] at hr
        simp [lits, reachBytes] at hr
        have hz' : zs.length = cap := by simpa using hz
        omega
    subst e0
    obtain ⟨bs, hB, hb, hlen⟩ := body_of_row hz
    exact ⟨⟨_, bs, wt, ak⟩, rfl, hB, hb, by show bs.length ≤ _; omega, wfU32 h1⟩)
  rw [show Try.prog.cellsOf 47 = 3 from by kernel_rfl] at hr
  rcases hr.plain (by omega) with ⟨rfl, h1, h2⟩ | ⟨h0, h1, h2, b, off, rfl, hbl, hx⟩
  · exact ⟨[], rfl, ⟨.inl rfl, fun d hd => absurd hd (by simp)⟩, by omega⟩
  · unfold maxLen at h2
    obtain ⟨l, hl, hq⟩ := list_of zP (fun i (d : PutP) => PutOk w d ∧ w.cell? ⟨b, off + i * 3, none⟩ = some d.v ∧ w.cell? ⟨b, off + i * 3 + 1, none⟩ = some (.int .u32 d.wait) ∧ w.cell? ⟨b, off + i * 3 + 2, none⟩ = some (.bool d.ask)) len (fun i hi => by
      obtain ⟨cs, ⟨d, rfl, hok⟩, hl, hc⟩ := hx i hi
      have q0 := hc 0 (by omega)
      have q1 := hc 1 (by omega)
      have q2 := hc 2 (by omega)
      exact ⟨d, hok, by simpa using q0, by simpa [Nat.add_assoc] using q1, by simpa [Nat.add_assoc] using q2⟩)
    subst hl
    refine ⟨l, rfl, ⟨.inr ⟨b, off, rfl, hbl, fun i hi => (hq i hi).2⟩, fun d hd => ?_⟩, by omega⟩
    obtain ⟨i, hi, rfl⟩ := List.mem_iff_getElem.1 hd
    have := (hq i hi).1
    rwa [List.getD_eq_getElem?_getD, List.getElem?_eq_getElem hi] at this

end Go.Proofs.Ytikkmdbaekdolaa
