/- a reader of any slice of bytes; what lies in a packet's cells. -/
import Derived.Test.YtikkmdbaekdolaaTakeHere
import Derived.Laws.AppendOwnNone
namespace Go.Proofs.Ytikkmdbaekdolaa
open Go.RowKit Go.Lib
set_option linter.unusedVariables false
set_option maxRecDepth 100000

/-- a slice of bytes, nil and empty ones too -/
def BodyAt (w : World) (v : Value) (l : List Int) : Prop :=
  (∃ x c, v = .slice x 0 c ∧ (x = none → c = 0) ∧ l = []) ∨ ∃ g o c, v = .slice (some ⟨g, o, none⟩) l.length c ∧ 1 ≤ l.length ∧ l.length ≤ c ∧ c ≤ 9223372036854775807 ∧ BytesAt w g o l

theorem BodyAt.below {w w' : World} {v : Value} {l : List Int} (h : BodyAt w v l) (hb : Below w.heap.size w w') : BodyAt w' v l := by
  rcases h with h | ⟨g, o, c, h1, h2, h3, h4, h5⟩
  · exact .inl h
  · exact .inr ⟨g, o, c, h1, h2, h3, h4, BytesAt.below h5 hb⟩
theorem BodyAt.form {w : World} {v : Value} {l : List Int} (h : BodyAt w v l) : ∃ x c, v = .slice x l.length c := by
  rcases h with ⟨x, c, rfl, _, rfl⟩ | ⟨g, o, c, rfl, _⟩
  · exact ⟨_, _, rfl⟩
  · exact ⟨_, _, rfl⟩

set_option maxHeartbeats 1000000 in
theorem oNewNil (ao : Option Addr) (cap : Nat) (h : ao = none → cap = 0) (w : World) :
    Calls Try.prog 121 #[.slice ao 0 cap] w fun e w' => ∃ w1 x c, Below w.heap.size w w1 ∧ e = .returned (.pointer (some ⟨w1.heap.size, 0, none⟩)) ∧ w' = w1.alloc (.cells #[.slice x 0 c] 188) ∧ c ≤ 9223372036854775807 := by
  obtain ⟨i, hi, hz, hs, hb⟩ := info_parts (P := Try.prog) (e := 5) (z := .int .u8 0) (size := 1) (bytes := 1) (by kernel_rfl)
  cases ao with
  | none =>
    rw [h rfl]
    go_enter Try.func121, Try.ntmps121
    go_wp2_with (at_builtin; refine wpList_append_own_none rfl _ _ 44 rfl w.heap.size 5 i 1 Try.underlying44 hi _ 0 _ rfl (World.ownsRow_nil _ _ _ _) rfl ?_)
    go_ret
    exact ⟨w, Below.refl _ _, rfl, none, 0, rfl, by omega⟩
  | some ad =>
    go_enter Try.func121, Try.ntmps121
    go_wp2_with (at_builtin; refine wpList_append_own _ rfl _ _ 44 rfl w.heap.size 5 i (.int .u8 0) 1 1 Try.underlying44 hi hz hs hb rfl (by decide) (.slice none 0 0) 0 [] rfl (World.ownsRow_nil _ _ _ _) ad 0 cap [] rfl rfl (fun j u hu => by simp at hu) (fun u hu => by simp at hu) (by simp) (by omega) (Nat.le_refl _) ?_; intro v' w1 hown hgrow hnil; obtain ⟨x, c, rfl⟩ := own_slice hown)
    have hc : c ≤ 9223372036854775807 := by
      obtain ⟨_, ⟨h1, h2⟩ | ⟨g, c', cur, he, hg, hheap, hc, hm, _⟩⟩ := hown
      · injection h1 with e1 e2 e3; omega
      · injection he with e1 e2 e3; unfold maxLen at hm; omega
    go_ret
    exact ⟨w1, below_grown (Below.refl _ _) hgrow (Nat.le_refl _), rfl, x, c, rfl, hc⟩

/-- a reader of any slice of bytes -/
theorem oNewAny (v : Value) (bs : List Int) (hlen : bs.length ≤ 140737488351232) (w : World) (h : BodyAt w v bs) :
    Calls Try.prog 121 #[v] w fun e w' => ∃ p, e = .returned (.pointer (some ⟨p, 0, none⟩)) ∧ w.heap.size ≤ p ∧ p < w'.heap.size ∧ Below w.heap.size w w' ∧ RdAt w' p bs := by
  rcases h with ⟨x, c, rfl, h0, rfl⟩ | ⟨g, o, c, rfl, h1, h2, h3, h4⟩
  · refine (oNewNil x c h0 w).mono fun e w' ⟨w1, y, d, b1, he, hw, hd⟩ => ?_
    subst hw
    refine ⟨w1.heap.size, he, b1.size, by simp, b1.trans ((Below.refl _ _).alloc b1.size _), by simp, by go_simp, y, d, by go_simp, by simp, hd, .inl rfl⟩
  · refine (oNew g o bs.length c bs rfl (by omega) w h4).mono fun e w' ⟨w1, y, hgrow, hown, he, hw⟩ => ?_
    obtain ⟨q, d, rfl, hq, hd, hm, BQ⟩ := ownBytes hown (by omega)
    subst hw
    have b1 : Below w.heap.size w w1 := below_grown (Below.refl _ _) hgrow (Nat.le_refl _)
    have q1 := BQ.1
    refine ⟨w1.heap.size, he, b1.size, by simp, b1.trans ((Below.refl _ _).alloc b1.size _), by simp, by go_simp, _, d, by go_simp, hd, hm, .inr ⟨q, 0, rfl, by omega, BytesAt.below BQ ((Below.refl _ _).alloc (Nat.le_refl _) _)⟩⟩

/-- the reader stays where no byte is written -/
theorem RdAt.set {w : World} {p : Nat} {zs : List Int} (h : RdAt w p zs) (a : Addr) (ha : a.block ≠ p) (hne : ∀ j x, w.cell? ⟨a.block, j, none⟩ ≠ some (.int .u8 x)) (u : Value) : RdAt (w.setCell a u) p zs := by
  obtain ⟨h1, h2, x, c, h3, h4, h5, h6⟩ := h
  have hp : a ≠ ⟨p, 0, none⟩ := by intro e; exact ha (by rw [e])
  refine ⟨by simpa using h1, ?_, x, c, ?_, h4, h5, ?_⟩
  · rw [← h2]
    unfold World.frozen?
    rw [kept_set w a u p (Ne.symm ha)]
  · rw [← h3]
    exact World.cell?_setCell_other _ _ _ _ hp
  · rcases h6 with rfl | ⟨g, o, rfl, h7, h8⟩
    · exact .inl rfl
    · by_cases hz : zs = []
      · exact .inl hz
      · refine .inr ⟨g, o, rfl, h7, by simpa using h8.1, fun i hi => ?_⟩
        rw [← h8.2 i hi]
        refine World.cell?_setCell_other _ _ _ _ fun e => ?_
        have h9 := h8.2 i hi
        rw [← e] at h9
        obtain ⟨ab, ao, asp⟩ := a
        injection e with e1 e2 e3
        subst e3
        exact hne _ _ h9

theorem BytesAt.set {w : World} {q o : Nat} {xs : List Int} (h : BytesAt w q o xs) (a : Addr) (ha : a.block ≠ q) (u : Value) : BytesAt (w.setCell a u) q o xs :=
  ⟨by simpa using h.1, fun i hi => by rw [← h.2 i hi]; exact World.cell?_setCell_other _ _ _ _ (by intro e; exact ha (by rw [e]))⟩

end Go.Proofs.Ytikkmdbaekdolaa
