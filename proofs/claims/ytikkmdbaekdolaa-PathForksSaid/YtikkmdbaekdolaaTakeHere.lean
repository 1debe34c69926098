/- Take of a reader, by what is left of it. -/
import Derived.Test.YtikkmdbaekdolaaWordSame
namespace Go.Proofs.Ytikkmdbaekdolaa
open Go.RowKit Go.Lib
set_option linter.unusedVariables false
set_option maxRecDepth 100000

theorem takeHere (zs : List Int) (m : Nat) (h1 : 1 ≤ m) (h2 : m ≤ zs.length) (h3 : zs.length ≤ 140737488351232) (w : World) (p : Nat) (hr : RdAt w p zs) :
    Calls Try.prog 122 #[.pointer (some ⟨p, 0, none⟩), .int .i64 (m : Int)] w fun e w' => ∃ q d, e = .returned (.tuple #[.slice (some ⟨q, 0, none⟩) m d, .int .i64 0]) ∧ BytesAt w' q 0 (zs.take m) ∧ Below p w w' ∧ RdAt w' p (zs.drop m) ∧ Kept p w w' ∧ m ≤ d ∧ d ≤ 9223372036854775807 := by
  obtain ⟨a1, a2, x, c, a3, a4, a5, a6⟩ := hr
  obtain ⟨g, o, rfl, a7, a8⟩ := a6.resolve_left (by intro e; rw [e] at h2; simp at h2; omega)
  refine (oTake p g o zs.length c m zs (zs.take m) rfl w a3 a2 a1 a8 rfl h2 ⟨a4, a5⟩ h3).mono fun e w' ⟨w1, v, bl, hown, he, mv⟩ => ?_
  obtain ⟨q, d, rfl, hq, hd, hdm, BQ⟩ := ownBytes hown (by omega)
  have mv2 := mv
  obtain ⟨x, _, rfl⟩ := mv
  refine ⟨q, d, he, ⟨by simpa using BQ.1, fun i hi => ?_⟩, (bl.mono (by omega)).trans (Below.setCell (Below.refl p w1) (Nat.le_refl p) _), RdAt.moved (Nat.lt_of_lt_of_le a1 bl.size) (by rw [bl.frozen a1]; exact a2) a7 (BytesAt.below a8 bl) rfl h2 ⟨a4, a5⟩ (by rw [bl.cell a1, a3]; rfl) mv2, fun k hk hl => by rw [kept_set _ _ _ _ hk, bl.block k hl], hd, hdm⟩
  rw [← BQ.2 i hi]
  have hne : (⟨p, 0, none⟩ : Addr) ≠ ⟨q, 0 + i, none⟩ := by intro e; injection e with e1; omega
  exact World.cell?_setCell_other _ _ _ _ hne

theorem takeShort (zs : List Int) (n : Int) (h : (zs.length : Int) < n) (w : World) (p : Nat) (hr : RdAt w p zs) :
    Calls Try.prog 122 #[.pointer (some ⟨p, 0, none⟩), .int .i64 n] w fun e w' => e = .returned (.tuple #[.slice none 0 0, .int .i64 2]) ∧ w = w' := by
  obtain ⟨_, _, x, c, h3, _⟩ := hr
  exact oTakeShort p zs.length c x n h w h3

theorem leftHere (zs : List Int) (w : World) (p : Nat) (hr : RdAt w p zs) :
    Calls Try.prog 125 #[.pointer (some ⟨p, 0, none⟩)] w fun e w' => e = .returned (.int .i64 zs.length) ∧ w = w' := by
  obtain ⟨_, _, x, c, h3, _⟩ := hr
  exact oLeft p zs.length c x w h3

end Go.Proofs.Ytikkmdbaekdolaa
