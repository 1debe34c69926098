/- package head: Mark; the reference's MarkData. -/
import Derived.Test.YtikkmdbaekdolaaHeadRput
import Derived.Test.YtikkmdbaekdolaaHeadRef
import Derived.Test.YtikkmdbaekdolaaHeadSame
namespace Go.Proofs.Ytikkmdbaekdolaa
open Go.RowKit Go.Lib
set_option linter.unusedVariables false
set_option maxRecDepth 100000

/-- the packet, marked -/
def markD (d : Dat) : Dat := ⟨d.pn, d.least, d.off, d.x, 3, d.body⟩
theorem MayD.mark {d : Dat} (h : MayD d) : MayD (markD d) := ⟨h.pn, h.least, by simp [markD], h.len, h.off, h.x⟩

/-- a body that is not empty lies somewhere -/
theorem BodyAt.some {w : World} {v : Value} {l : List Int} (h : BodyAt w v l) (hl : 1 ≤ l.length) : ∃ g o c, v = .slice (some ⟨g, o, none⟩) l.length c ∧ l.length ≤ c ∧ c ≤ 9223372036854775807 ∧ BytesAt w g o l := by
  rcases h with ⟨_, _, _, _, rfl⟩ | ⟨g, o, c, h1, h2, h3, h4, h5⟩
  · simp at hl
  · exact ⟨g, o, c, h1, h3, h4, h5⟩

set_option maxHeartbeats 2000000 in
theorem hMarkNo (bv : Value) (bs : List Int) (hb : ∀ x ∈ bs, 0 ≤ x ∧ x ≤ 255) (hlen : bs.length ≤ 140737488351232) (w : World) (hB : BodyAt w bv bs) (E : Int) (d : Dat) (hG : getF bs = (E, d)) (hE : E ≠ 0) :
    Calls Try.prog 64 #[bv] w fun e w' => e = .returned (.tuple #[.slice none 0 0, .bool false]) ∧ Below w.heap.size w w' := by
  have hd : (E != 0) = true := by rw [bne_iff_ne]; exact hE
  go_enter Try.func64, Try.ntmps64
  go_wp2_with fail
  refine (hDecode bv bs hb hlen _ hB E d hG).mono ?_; rintro e' w1 ⟨v1, rfl, b1, V1⟩
  obtain ⟨x1, c1, hv1⟩ := V1.form
  subst hv1
  unfold dataV
  go_wp2_with fail
  refine bodyPost_ret (v := .tuple #[.slice none 0 0, .bool false]) (by simp [results, Try.results64, go_sem]) rfl ⟨rfl, b1.alloc b1.size _⟩

set_option maxHeartbeats 2000000 in
theorem hMarkYes (bv : Value) (bs : List Int) (hb : ∀ x ∈ bs, 0 ≤ x ∧ x ≤ 255) (hlen : bs.length ≤ 140737488351232) (w : World) (hB : BodyAt w bv bs) (d : Dat) (hG : getF bs = (0, d)) :
    Calls Try.prog 64 #[bv] w fun e w' => ∃ v, e = .returned (.tuple #[v, .bool true]) ∧ Below w.heap.size w w' ∧ w'.ownsRow w.heap.size 5 1 v (putD (markD d)).length ((putD (markD d)).map (.int .u8)) := by
  obtain ⟨hd, _⟩ := getF_ok bs hb d hG
  go_enter Try.func64, Try.ntmps64
  go_wp2_with fail
  refine (hDecode bv bs hb hlen _ hB 0 d hG).mono ?_; rintro e' w1 ⟨v1, rfl, b1, V1⟩
  obtain ⟨g, o, c, rfl, hc, hm, B1⟩ := V1.some hd.len.1
  unfold dataV
  go_wp2_with fail
  have b2 : ∀ z, Below w1.heap.size w1 (w1.alloc (.cells z 82 (0, 0))) := fun z => (Below.refl _ _).alloc (Nat.le_refl _) _
  refine (hEncode (markD d) hd.mark g o c ⟨hc, hm⟩ _ (B1.below (b2 _))).mono ?_; rintro e' w3 ⟨v3, rfl, b3, own3⟩
  have b03 := b1.trans (((b2 _).mono b1.size).trans (b3.mono (by have := b1.size; simp; omega)))
  go_wp2_with fail
  refine bodyPost_ret (v := .tuple #[v3, .bool true]) (by simp [results, Try.results64, go_sem]) rfl ⟨v3, rfl, b03, own_base own3 (by have := b1.size; simp; omega)⟩

set_option maxHeartbeats 2000000 in
theorem rMarkNo (bv : Value) (bs : List Int) (hb : ∀ x ∈ bs, 0 ≤ x ∧ x ≤ 255) (hlen : bs.length ≤ 140737488351232) (w : World) (hB : BodyAt w bv bs) (E : Int) (d : Dat) (hG : getF bs = (E, d)) (hE : E ≠ 0) :
    Calls Try.prog 67 #[bv] w fun e w' => e = .returned (.tuple #[.slice none 0 0, .bool false]) ∧ Below w.heap.size w w' := by
  have hd : (E != 0) = true := by rw [bne_iff_ne]; exact hE
  go_enter Try.func67, Try.ntmps67
  go_wp2_with fail
  refine (rGet bv bs hb hlen _ hB E d hG).mono ?_; rintro e' w1 ⟨v1, rfl, b1, V1⟩
  obtain ⟨x1, c1, hv1⟩ := V1.form
  subst hv1
  unfold dataV
  go_wp2_with fail
  refine bodyPost_ret (v := .tuple #[.slice none 0 0, .bool false]) (by simp [results, Try.results67, go_sem]) rfl ⟨rfl, b1.alloc b1.size _⟩

set_option maxHeartbeats 2000000 in
theorem rMarkYes (bv : Value) (bs : List Int) (hb : ∀ x ∈ bs, 0 ≤ x ∧ x ≤ 255) (hlen : bs.length ≤ 140737488351232) (w : World) (hB : BodyAt w bv bs) (d : Dat) (hG : getF bs = (0, d)) :
    Calls Try.prog 67 #[bv] w fun e w' => ∃ v, e = .returned (.tuple #[v, .bool true]) ∧ Below w.heap.size w w' ∧ w'.ownsRow w.heap.size 5 1 v (putD (markD d)).length ((putD (markD d)).map (.int .u8)) := by
  obtain ⟨hd, _⟩ := getF_ok bs hb d hG
  go_enter Try.func67, Try.ntmps67
  go_wp2_with fail
  refine (rGet bv bs hb hlen _ hB 0 d hG).mono ?_; rintro e' w1 ⟨v1, rfl, b1, V1⟩
  obtain ⟨g, o, c, rfl, hc, hm, B1⟩ := V1.some hd.len.1
  unfold dataV
  go_wp2_with fail
  have b2 : ∀ z, Below w1.heap.size w1 (w1.alloc (.cells z 82 (0, 0))) := fun z => (Below.refl _ _).alloc (Nat.le_refl _) _
  refine (rPutData (markD d) hd.mark g o c ⟨hc, hm⟩ _ (B1.below (b2 _))).mono ?_; rintro e' w3 ⟨v3, rfl, b3, own3⟩
  have b03 := b1.trans (((b2 _).mono b1.size).trans (b3.mono (by have := b1.size; simp; omega)))
  go_wp2_with fail
  refine bodyPost_ret (v := .tuple #[v3, .bool true]) (by simp [results, Try.results67, go_sem]) rfl ⟨v3, rfl, b03, own_base own3 (by have := b1.size; simp; omega)⟩

end Go.Proofs.Ytikkmdbaekdolaa
