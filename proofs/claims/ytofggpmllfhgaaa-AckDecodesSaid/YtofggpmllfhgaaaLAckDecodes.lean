/- For all slices b of bytes, AckDecodes returns true: Decode agrees with the definition. No condition. -/
import Derived.Test.YtofggpmllfhgaaaBase
import Derived.SizedLaws
import Derived.Test.YtofggpmllfhgaaaAliveAck
import Derived.Test.YtofggpmllfhgaaaAckRef
namespace Go.Proofs.Ytofggpmllfhgaaa.ackDecodes
open Go.ChangeShapes Go.WideShapes Go.ChangeAt Go.RowKit Go.Lib
set_option linter.unusedVariables false
set_option maxRecDepth 100000

theorem body_of_row {w : World} {a : Option Addr} {len cap : Nat} {z : List Int} (h : IsRow .u8 w a len cap z) : ∃ bs, BodyAt w (.slice a len cap) bs ∧ (∀ x ∈ bs, 0 ≤ x ∧ x ≤ 255) ∧ bs.length ≤ cap := by
  rcases h with ⟨rfl, rfl, rfl, rfl⟩ | ⟨x, rfl, hl, hm, hz, hc, hw⟩
  · exact ⟨[], .inl ⟨none, 0, rfl, fun _ => rfl, rfl⟩, by simp, by simp⟩
  · by_cases h0 : len = 0
    · subst h0
      exact ⟨[], .inl ⟨some x, cap, rfl, (fun e => by cases e), rfl⟩, by simp, by simp⟩
    · obtain ⟨b, off, spot⟩ := x
      have h1 := hc 0 (by omega)
      obtain ⟨p1, p2⟩ := cell_plain h1
      have hs : spot = none := by simpa [Addr.add] using p1
      subst hs
      have ht : (z.take len).length = len := by rw [List.length_take]; omega
      refine ⟨z.take len, .inr ⟨b, off, cap, by rw [ht], by omega, by omega, by unfold maxLen at hm; omega, by simpa [Addr.add] using p2, fun i hi => ?_⟩, fun y hy => wfU8 (hw y (List.mem_of_mem_take hy)), by omega⟩
      rw [ht] at hi
      have h2 := hc i (by omega)
      rw [addr_add] at h2
      rw [h2, List.getD_eq_getElem?_getD, List.getD_eq_getElem?_getD, List.getElem?_take, if_pos (by omega)]

theorem getA_lens (bs : List Int) (hb : ∀ x ∈ bs, 0 ≤ x ∧ x ≤ 255) (E : Int) (d : AckD) (h : getA bs = (E, d)) (hz : d ≠ zeroA → E = 0) : d.spans.length ≤ 32 ∧ d.marked.length ≤ 32 := by
  by_cases hd : d = zeroA
  · subst hd
    exact ⟨by simp [zeroA], by simp [zeroA]⟩
  · have := hz hd
    subst this
    obtain ⟨m, _⟩ := getA_ok bs hb d h
    exact ⟨m.sl.2, m.ml⟩

set_option maxHeartbeats 2000000 in
theorem walkAny (bv : Value) (bs : List Int) (hb : ∀ x ∈ bs, 0 ≤ x ∧ x ≤ 255) (hlen : bs.length ≤ 140737488351232) (w : World) (hB : BodyAt w bv bs) :
    Calls Try.prog 10 #[bv] w fun e w' => e = .returned (.bool true) ∧ Below w.heap.size w w' := by
  obtain ⟨E, d, hG⟩ : ∃ E d, getA bs = (E, d) := ⟨_, _, rfl⟩
  obtain ⟨hls, hlm⟩ := getA_lens bs hb E d hG (getA_zero bs E d hG)
  go_enter Try.func10, Try.ntmps10
  go_wp2_with fail
  refine (aliveAck _).mono ?_; rintro e' w1 ⟨rfl, b1⟩
  go_wp2_with fail
  refine (aDecode bv bs hb hlen _ (hB.below b1) E d hG).mono ?_; rintro e' w2 ⟨v2, u2, rfl, b2, S2, M2⟩
  have b02 := b1.trans (b2.mono b1.size)
  have hB2 := hB.below b02
  obtain ⟨x2, c2, rfl, S2⟩ := S2
  obtain ⟨y2, e2, rfl, M2⟩ := M2
  unfold ackV
  go_wp2_with fail
  obtain ⟨w3, hw3⟩ : ∃ w3, w3 = w2.alloc (.cells #[.slice x2 d.spans.length c2, .slice y2 d.marked.length e2, .int .u64 d.trig, .int .u64 d.xr, .bool d.par] 52 (0, 0)) := ⟨_, rfl⟩
  have b3 : Below w2.heap.size w2 w3 := by rw [hw3]; exact (Below.refl _ _).alloc (Nat.le_refl _) _
  have D3 : AckAt w3 w2.heap.size (.slice x2 d.spans.length c2) (.slice y2 d.marked.length e2) (.int .u64 d.trig) (.int .u64 d.xr) (.bool d.par) := by rw [hw3]; exact AckAt.alloc w2 _ _ _ _ _
  have b03 := b02.trans (b3.mono b02.size)
  have S3 := S2.below b3
  have M3 := M2.below b3
  have hB3 := hB2.below b3
  rw [← hw3]
  clear hw3 b1 b2 b3 hB hB2 S2 M2
  refine (rGetAck bv bs hb hlen _ hB3 E d hG).mono ?_; rintro e' w4 ⟨v4, u4, rfl, b4, S4, M4⟩
  obtain ⟨x4, c4, rfl, S4⟩ := S4
  obtain ⟨y4, e4, rfl, M4⟩ := M4
  unfold ackV
  have D4 := D3.belowB D3.lt b4
  have l4 := D4.lt
  have b04 := b03.trans (b4.mono b03.size)
  have S34 := S3.below b4
  have M34 := M3.below b4
  obtain ⟨d0, d1, d2, d3, d4⟩ := D4.cells.1
  have s4 := b04.size
  have hee : (E == E) = true := by simp
  clear b4 S3 M3 D3 hB3
  go_wp2_with fail
  have ba : ∀ z, Below w4.heap.size w4 (w4.alloc (.cells z 52 (0, 0))) := fun z => (Below.refl _ _).alloc (Nat.le_refl _) _
  refine (rSameAck d (.slice x2 d.spans.length c2) (.slice y2 d.marked.length e2) (.slice x4 d.spans.length c4) (.slice y4 d.marked.length e4) _ hls hlm ⟨_, _, rfl, S34.below (ba _)⟩ ⟨_, _, rfl, M34.below (ba _)⟩ ⟨_, _, rfl, S4.below (ba _)⟩ ⟨_, _, rfl, M4.below (ba _)⟩).mono ?_; rintro e' w5 ⟨rfl, b5⟩
  have b05 := b04.trans (((ba _).mono s4).trans (b5.mono (by simp; omega)))
  go_wp2_with fail
  go_ret
  exact ⟨rfl, b05⟩

theorem walk (a0 : Option Addr) (len0 cap0 : Nat) (z0 : List Int) (w : World) (w0 : IsRow .u8 w a0 len0 cap0 z0) (s0 : cap0 ≤ 140737488351232) :
    Calls Try.prog 10 #[.slice a0 len0 cap0] w fun e w' => e = .returned (.bool true) ∧ Below w.heap.size w w' := by
  obtain ⟨bs, hB, hb, hl⟩ := body_of_row w0
  exact walkAny _ bs hb (by omega) w hB

/-! ### the row's step -/
set_option maxRecDepth 100000 in
theorem lifted (os : Os) (started : os.Started) (H : Type) (enc : TypeId × Value → H) :
    ReturnsInHanded {} Try.checked os 10 .any (Rows.ackDecodesSpec.pre6 enc Try.prog Try.f10 Rows.ackDecodesRow.domain false) (Rows.ackDecodesSpec.post enc Try.prog Try.f10 false true false false) := by
  refine returnsInHanded_of_change_sized (C := Try.checked) own started (by kernel_rfl) Try.func10
    (ChangeSpec.witness6 (enc := enc) (C := Try.checked) false ⟨#[], #[.slice none 0 0], []⟩ 8 (by kernel_rfl) (by kernel_rfl) (by kernel_rfl) (by kernel_rfl)) ?_
  intro W base args ds gs before hval0 hW hcnd hsz0 _
  have hsz : (DataW.weightsEach Try.prog (Try.f10.params.toList ++ Rows.ackDecodesSpec.plain.varTypes Try.prog) (ds ++ gs)).all (· ≤ reachBytes) = true := hsz0
  clear hsz0
  have hval : ∀ (j : Nat) t v, Try.f10.params[j]? = some t → args[j]? = some v → Value.okWide Try.prog W .any base t v := hval0
  have hW' := hW
  obtain ⟨p, q, hA0, hV, rfl, hfz, hnd⟩ := hW
  have hA : DataW.TrodAll enc Try.prog W 0 (fun _ => true) true Try.f10.params.toList args.toList ds p := hA0
  rw [Try.params10] at hA hval hsz
  obtain ⟨v0, vs0, d0, ds0, p0, q0, hargs, rfl, rfl, h0, r0⟩ := trodAll_cons hA
  obtain ⟨rfl, rfl, rfl⟩ := trodAll_nil r0
  obtain rfl : args = #[v0] := by cases args; simp_all
  obtain ⟨rfl, rfl⟩ := trodVars_none hV
  obtain ⟨a0, len0, cap0, rfl⟩ := okWide_slice Try.underlying23 (hval 0 23 v0 rfl rfl)
  have k0 := h0
  have lt0 : ∀ x ∈ p0, x.block < W.heap.size := by obtain ⟨m, hm⟩ := k0; exact DataW.trod_lt m _ _ _ hm
  obtain ⟨z0, w0, s0⟩ : ∃ zs, IsRow .u8 W a0 len0 cap0 zs ∧ cap0 ≤ 140737488351232 := by
    obtain ⟨fuel, hf⟩ := h0
    rcases open_ints Try.underlying23 Try.underlying5 (by kernel_rfl) hf with ⟨hcs, _⟩ | ⟨x, l, c, zs, hcs, _, hl, hm, hz, hx, hcell, hwz⟩
    · simp [Value.cells] at hcs
      obtain ⟨rfl, rfl, rfl⟩ := hcs
      exact ⟨[], .inl ⟨rfl, rfl, rfl, rfl⟩, by omega⟩
    · simp [Value.cells] at hcs
      obtain ⟨rfl, rfl, rfl⟩ := hcs
      have hd := (Prod.mk.inj hx).1
      have hr := sized_slice hsz (j := 0) (t := 23) (e := 5) rfl (by rw [← hd]; rfl) Try.underlying23
      rw [show Try.prog.bytesOf 5 = 1 from by kernel_rfl] at hr
      simp only [lits, List.length_map, List.length_take, List.length_drop, reachBytes] at hr
      have hz' : zs.length = cap0 := by simpa using hz
      exact ⟨zs, .inr ⟨_, rfl, hl, hm, hz', hcell, hwz⟩, by omega⟩
  clear hA0 hval0
  refine (walk a0 len0 cap0 z0 W w0 s0).mono fun e W' ⟨he, bel⟩ => ?_
  subst he
  exact ⟨_, rfl, _, _, _, [], _, [], hW', trodAll_mk1 (shut_bool Try.underlying4 _), (trodAll_cons_mk (Below.trod laidOut (by kernel_rfl) (of_decide_eq_true (by kernel_rfl)) k0 bel lt0) trodAll_mk0), rfl, bel.frame _, fun h => by cases h⟩

theorem over : Rows.ackDecodesRow.holds Try.pinned (OpenSpec.ofChange Rows.ackDecodesSpec) :=
  OpenClaim.holds_of_wide 10 Try.f10 rfl rfl rfl rfl rfl rfl rfl ⟨rfl, rfl, rfl, rfl, rfl⟩ rfl rfl rfl rfl rfl (by kernel_rfl) Try.func10 (by kernel_rfl)
    (of_decide_eq_true (by kernel_rfl)) (by unfold Func.isWrapper; first | (rw [if_pos (by decide +kernel)]; kernel_rfl) | (rw [if_neg (by decide +kernel)]; exact ⟨rfl, rfl⟩))
    (fun os started H enc _ => lifted os started H enc)

/-- THE STATEMENT -/
theorem proved : Rows.AckDecodesSaid := over
end Go.Proofs.Ytofggpmllfhgaaa.ackDecodes
