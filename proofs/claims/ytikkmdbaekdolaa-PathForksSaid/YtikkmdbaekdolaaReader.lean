/- readers of bytes: New, Num, Left; and rows of bytes. -/
import Derived.Test.YtikkmdbaekdolaaOctet
import Derived.Test.YtikkmdbaekdolaaBits
import Derived.Laws.AppendOwn
import Derived.OwnWalk
namespace Go.Proofs.Ytikkmdbaekdolaa
open Go.RowKit Go.Lib
set_option linter.unusedVariables false
set_option maxRecDepth 100000

/-- bytes that lie from a place on -/
def BytesAt (w : World) (b off : Nat) (xs : List Int) : Prop := b < w.heap.size ∧ ∀ i, i < xs.length → w.cell? ⟨b, off + i, none⟩ = some (.int .u8 (xs.getD i 0))

theorem BytesAt.news {w : World} {b off : Nat} {xs : List Int} (h : BytesAt w b off xs) (j : Nat) (u : Value) (hu : (xs.map (.int .u8))[j]? = some u) : w.cell? ((⟨b, off, none⟩ : Addr).add j) = some u := by
  rw [List.getElem?_map] at hu
  cases hx : xs[j]? with
  | none => rw [hx] at hu; cases hu
  | some x =>
    rw [hx] at hu
    obtain ⟨hj, he⟩ := List.getElem?_eq_some_iff.1 hx
    rw [addr_add, h.2 j hj, List.getD_eq_getElem?_getD, hx]
    simpa using hu
theorem BytesAt.below {w w' : World} {b off : Nat} {xs : List Int} (h : BytesAt w b off xs) (hb : Below w.heap.size w w') : BytesAt w' b off xs :=
  ⟨Nat.lt_of_lt_of_le h.1 hb.size, fun i hi => by rw [hb.cell h.1]; exact h.2 i hi⟩

theorem oneCell_bytes (xs : List Int) : ∀ u ∈ xs.map (Value.int .u8), u.oneCell' = true := by
  intro u hu
  obtain ⟨x, _, rfl⟩ := List.mem_map.1 hu
  rfl

theorem below_grown {B : Nat} {a w w' : World} (h : Below B a w) (hg : w.grownBy w' none) (hB : B ≤ w.heap.size) : Below B a w' :=
  h.trans ⟨hg.os, hg.tape, hg.output, hg.size, fun k hk => hg.block k (by omega) (by simp)⟩
theorem own_slice {w : World} {base : Nat} {e : TypeId} {size : Nat} {v : Value} {n : Nat} {xs : List Value} (h : w.ownsRow base e size v n xs) : ∃ x c, v = .slice x n c := by
  obtain ⟨_, ⟨rfl, rfl⟩ | ⟨g, c, _, rfl, _⟩⟩ := h
  · exact ⟨none, 0, rfl⟩
  · exact ⟨_, c, rfl⟩

set_option maxHeartbeats 1000000 in
theorem oNew (b off len cap : Nat) (xs : List Int) (hl : xs.length = len) (hlen : len ≤ 140737488355328) (w : World) (h : BytesAt w b off xs) :
    Calls Try.prog 121 #[.slice (some ⟨b, off, none⟩) len cap] w fun e w' => ∃ w1 v, w.grownBy w1 none ∧ w1.ownsRow w.heap.size 5 1 v len (xs.map (.int .u8)) ∧ e = .returned (.pointer (some ⟨w1.heap.size, 0, none⟩)) ∧ w' = w1.alloc (.cells #[v] 188) := by
  obtain ⟨i, hi, hz, hs, hb⟩ := info_parts (P := Try.prog) (e := 5) (z := .int .u8 0) (size := 1) (bytes := 1) (by kernel_rfl)
  go_enter Try.func121, Try.ntmps121
  go_wp2_with (at_builtin; refine wpList_append_own _ rfl _ _ 44 rfl w.heap.size 5 i (.int .u8 0) 1 1 Try.underlying44 hi hz hs hb rfl (by decide) (.slice none 0 0) 0 [] rfl (World.ownsRow_nil _ _ _ _) ⟨b, off, none⟩ len cap (xs.map (.int .u8)) rfl (by simp [hl]) h.news (oneCell_bytes xs) (by simp [maxLen]; omega) (by omega) (Nat.le_refl _) ?_; intro v' w1 hown hgrow hnil; obtain ⟨x, c, rfl⟩ := own_slice hown)
  go_ret
  simp only [Nat.zero_add, List.nil_append] at hown
  exact ⟨w1, hgrow, _, hown, rfl, rfl⟩

theorem oLeft (p len cap : Nat) (x : Option Addr) (w : World) (h : w.cell? ⟨p, 0, none⟩ = some (.slice x len cap)) :
    Calls Try.prog 125 #[.pointer (some ⟨p, 0, none⟩)] w fun e w' => e = .returned (.int .i64 len) ∧ w = w' := by
  go_enter Try.func125, Try.ntmps125
  go_wp2_with fail
  go_ret
  exact ⟨rfl, rfl⟩

/-- string(b) of bytes that lie there -/
theorem wpList_conv {ops : Array Oper} {rest : List Oper} {o : Oper} {a : Act} {w : World} {Q : Exit → Act → World → Prop} (hw : Region.wanted o (yielded ops a.tmps) = true) (y : Operand) (ho : o.op = .convert 44 9 y)
    (b off len cap : Nat) (hy : a.eval y = .slice (some ⟨b, off, none⟩) len cap) (xs : List Int) (hlen : xs.length = len) (h : BytesAt w b off xs)
    (hk : wpList Try.prog ops Q rest (a.put o.dst (.string (strOfNums xs))) w) : wpList Try.prog ops Q (o :: rest) a w := by
  unfold wpList
  rw [hw, if_pos rfl]
  refine .inl ?_
  unfold Oper.wp execOp
  have hr := run_convert_bytes_arg (P := Try.prog) w 44 5 Try.underlying44 Try.underlying5 b off len cap xs hlen (fun i hi => h.2 i (by omega)) 9 Try.underlying9
  simp only [ho, hy, hr, Sem.run_bind, Sem.run_pure, Result.andThen_ok]
  exact hk

set_option maxHeartbeats 1000000 in
theorem oNumForm (p g c : Nat) (w : World) (h : w.cell? ⟨p, 0, none⟩ = some (.slice (some ⟨g, 0, none⟩) 2 c)) (h0 : w.cell? ⟨g, 0, none⟩ = some (.int .u8 64)) (h1 : w.cell? ⟨g, 1, none⟩ = some (.int .u8 63)) (hc : 2 ≤ c ∧ c ≤ 9223372036854775807) :
    Calls Try.prog 137 #[.pointer (some ⟨p, 0, none⟩)] w fun e w' => e = .returned (.tuple #[.int .u64 0, .int .i64 5]) ∧ w = w' := by
  have e1 : (2 : Int) ≤ (c : Int) := by omega
  have e2 : (c : Int) ≤ 9223372036854775807 := by omega
  go_enter Try.func137, Try.ntmps137
  go_wp2_with fail
  refine wp_loop_rounds 2 ?_
  rw [rounds_succ]
  go_wp2_with fail
  rw [rounds_succ]
  go_wp2_with fail
  refine (oSize _ _).mono ?_; rintro e' w' ⟨rfl, rfl⟩
  rw [show sizeI (bits .or .u64 0 63) = 1 from by kernel_rfl]
  go_wp2_with fail
  exact bodyPost_ret (v := .tuple #[.int .u64 0, .int .i64 5]) (by simp [results, Try.results137, go_sem]) rfl ⟨rfl, rfl⟩

end Go.Proofs.Ytikkmdbaekdolaa
