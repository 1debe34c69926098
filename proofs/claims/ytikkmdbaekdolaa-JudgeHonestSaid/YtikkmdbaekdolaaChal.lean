/- package ack: Challenge and Number; the reference's GetNumber. -/
import Derived.Test.YtikkmdbaekdolaaHead
import Derived.Test.YtikkmdbaekdolaaRefAdd
import Derived.Test.YtikkmdbaekdolaaHeld
import Derived.Laws.OwnMore
namespace Go.Proofs.Ytikkmdbaekdolaa
open Go.RowKit Go.Lib
set_option linter.unusedVariables false
set_option maxRecDepth 100000

theorem ownBase {w : World} {B B' n s : Nat} {e : TypeId} {v : Value} {xs : List Value} (h : w.ownsRow B e s v n xs) (hB : B' ≤ B) : w.ownsRow B' e s v n xs := by
  obtain ⟨h1, h2 | ⟨g, c, cur, h3, h4, h5⟩⟩ := h
  · exact ⟨h1, .inl h2⟩
  · exact ⟨h1, .inr ⟨g, c, cur, h3, Nat.le_trans hB h4, h5⟩⟩

theorem oPutNo (n : Int) (h : 4611686018427387903 < n) (w : World) :
    Calls Try.prog 139 #[.int .u64 n] w fun e w' => e = .returned (.tuple #[.slice none 0 0, .bool false]) ∧ w = w' := by
  have hs : sizeI n = 0 := by
    unfold sizeI
    rw [if_neg (by omega), if_neg (by omega), if_neg (by omega), if_neg (by omega)]
  go_enter Try.func139, Try.ntmps139
  go_wp2_with fail
  refine (oSize n _).mono ?_; rintro e' w' ⟨rfl, rfl⟩
  rw [hs]
  go_wp2_with fail
  exact bodyPost_ret (v := .tuple #[.slice none 0 0, .bool false]) (by simp [results, Try.results139, go_sem]) rfl ⟨rfl, rfl⟩



/-- the number of which bytes are the challenge -/
def getN : List Int → Int × Int
  | [] => (0, 2)
  | k :: zs => if k = 3 then (if (numF zs).2.2 = 0 then (if (zs.drop (numF zs).2.1).length = 0 then ((numF zs).1, 0) else (0, 3)) else (0, (numF zs).2.2)) else (0, 4)

theorem getN_put (n : Int) (h : 0 ≤ n ∧ n ≤ 4611686018427387903) : getN (3 :: putA n) = (n, 0) := by
  have := numF_put n h []
  rw [List.append_nil] at this
  rw [getN, if_pos rfl, this, if_pos rfl, List.drop_length]
  rfl




end Go.Proofs.Ytikkmdbaekdolaa
