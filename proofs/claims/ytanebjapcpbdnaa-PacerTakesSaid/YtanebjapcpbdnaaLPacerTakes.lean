/- For all buckets p and words burst, now, size, PacerTakes returns true: Take and Next agree with the definition. No condition. -/
import Derived.Test.YtanebjapcpbdnaaBase
import Derived.Test.YtanebjapcpbdnaaAlivePacer
namespace Go.Proofs.Ytanebjapcpbdnaa.pacerTakes
open Go.ChangeShapes Go.WideShapes Go.ChangeAt Go.RowKit Go.Lib
set_option linter.unusedVariables false

theorem openPace {cs : Array Value} (h : Fits [some .u64, some .u64, some .u64] cs.toList) : ∃ t a r : Int, cs = #[.int .u64 t, .int .u64 a, .int .u64 r] ∧ W64 t ∧ W64 a ∧ W64 r := by
  obtain ⟨l⟩ := cs
  rcases l with _ | ⟨v0, _ | ⟨v1, _ | ⟨v2, _ | ⟨v3, l⟩⟩⟩⟩ <;> simp only [Fits, and_false] at h
  obtain ⟨⟨t, rfl, h0⟩, ⟨a, rfl, h1⟩, ⟨r, rfl, h2⟩, _⟩ := h
  exact ⟨t, a, r, rfl, wfU64 h0, wfU64 h1, wfU64 h2⟩

set_option maxHeartbeats 8000000 in
theorem walkP (t a r b n s : Int) (w : World) (ht : W64 t) (ha : W64 a) (hr : W64 r) (hb : W64 b) (hn : W64 n) (hs : W64 s) :
    Calls Try.prog 3 #[.agg #[.int .u64 t, .int .u64 a, .int .u64 r], .int .u64 b, .int .u64 n, .int .u64 s] w fun e w' => e = .returned (.bool true) ∧ Gr w w' := by
  have Ht := Lib.hid ht
  have Ha := Lib.hid ha
  have Hr := Lib.hid hr
  have Hb := Lib.hid hb
  have Hn := Lib.hid hn
  have Hs := Lib.hid hs
  clear ht ha hr hb hn hs
  go_enter Try.func3, Try.ntmps3
  go_wp2_with fail
  refine (alivePacer _).mono ?_; rintro e' w' ⟨rfl, n1, os1, rfl⟩
  go_wp2_with fail
  refine (pcTake t a r b n s Ht.out Ha.out Hr.out Hb.out Hn.out Hs.out _).mono ?_; rintro e' w' ⟨rfl, n2, os2, rfl⟩
  go_wp2_with fail
  refine (qpTake t a r b n s Ht.out Ha.out Hr.out Hb.out Hn.out Hs.out _).mono ?_; rintro e' w' ⟨rfl, n3, os3, rfl⟩
  go_wp2_with fail
  go_region_held3 (fun w' => w'.cell? ⟨w.heap.size, 0, none⟩ = some (.int .u64 t) ∧ w'.cell? ⟨w.heap.size, 1, none⟩ = some (.int .u64 a) ∧ w'.cell? ⟨w.heap.size, 2, none⟩ = some (.int .u64 r) ∧ w'.cell? ⟨w.heap.size + 1 + os1.size + os2.size, 0, none⟩ = some (.int .u64 (takeT t a r b n s)) ∧ w'.cell? ⟨w.heap.size + 1 + os1.size + os2.size, 1, none⟩ = some (.int .u64 (max a n)) ∧ w'.cell? ⟨w.heap.size + 1 + os1.size + os2.size, 2, none⟩ = some (.int .u64 r) ∧ w'.cell? ⟨w.heap.size + 1 + os1.size + os2.size + 1 + os3.size, 0, none⟩ = some (.int .u64 (takeT t a r b n s)) ∧ w'.cell? ⟨w.heap.size + 1 + os1.size + os2.size + 1 + os3.size, 1, none⟩ = some (.int .u64 (max a n)) ∧ w'.cell? ⟨w.heap.size + 1 + os1.size + os2.size + 1 + os3.size, 2, none⟩ = some (.int .u64 r)) (first | go_simp | go_keep)
    (first
      | (go_at_call 18; ((with_reducible refine (pcNext t a r b n s Ht.out Ha.out Hr.out Hb.out Hn.out Hs.out _).mono ?_); rintro e' w' ⟨rfl, n4, os4, rfl⟩))
      | (go_at_call 19; ((with_reducible refine (qpNext t a r b n s Ht.out Ha.out Hr.out Hb.out Hn.out Hs.out _).mono ?_); rintro e' w' ⟨rfl, n5, os5, rfl⟩)))
  go_wp2_with fail
  go_ret
  exact ⟨rfl, by repeat (first | exact Gr.refl _ | apply Gr.drewN | apply Gr.drew | apply Gr.gw | apply Gr.alloc)⟩

theorem walk (cs0 : Array Value) (a1 a2 a3 : Int) (w : World) (w0 : Fits [some .u64, some .u64, some .u64] cs0.toList) (w1 : W64 a1) (w2 : W64 a2) (w3 : W64 a3) :
    Calls Try.prog 3 #[.agg cs0, .int .u64 a1, .int .u64 a2, .int .u64 a3] w fun e w' => e = .returned (.bool true) ∧ Below w.heap.size w w' := by
  obtain ⟨t, a, r, rfl, ht, ha, hr⟩ := openPace w0
  exact (walkP t a r a1 a2 a3 w ht ha hr w1 w2 w3).mono fun _ _ h => ⟨h.1, h.2.below⟩

/-! ### the row's step -/
set_option maxRecDepth 100000 in
theorem lifted (os : Os) (started : os.Started) (H : Type) (enc : TypeId × Value → H) :
    ReturnsInHanded {} Try.checked os 3 .any (Rows.pacerTakesSpec.pre6 enc Try.prog Try.f3 Rows.pacerTakesRow.domain false) (Rows.pacerTakesSpec.post enc Try.prog Try.f3 false true false false) := by
  refine returnsInHanded_of_change (C := Try.checked) own started (by kernel_rfl) Try.func3
    (ChangeSpec.witness6 (enc := enc) (C := Try.checked) false ⟨#[], #[.agg #[.int .u64 0, .int .u64 0, .int .u64 0], .int .u64 0, .int .u64 0, .int .u64 0], []⟩ 8 (by kernel_rfl) (by kernel_rfl) (by kernel_rfl) (by kernel_rfl)) ?_
  intro W base args ds gs before hval0 hW hcnd _
  have hval : ∀ (j : Nat) t v, Try.f3.params[j]? = some t → args[j]? = some v → Value.okWide Try.prog W .any base t v := hval0
  have hW' := hW
  obtain ⟨p, q, hA0, hV, rfl, hfz, hnd⟩ := hW
  have hA : DataW.TrodAll enc Try.prog W 0 (fun _ => true) true Try.f3.params.toList args.toList ds p := hA0
  rw [Try.params3] at hA hval
  obtain ⟨v0, vs0, d0, ds0, p0, q0, hargs, rfl, rfl, h0, r0⟩ := trodAll_cons hA
  obtain ⟨v1, vs1, d1, ds1, p1, q1, rfl, rfl, rfl, h1, r1⟩ := trodAll_cons r0
  obtain ⟨v2, vs2, d2, ds2, p2, q2, rfl, rfl, rfl, h2, r2⟩ := trodAll_cons r1
  obtain ⟨v3, vs3, d3, ds3, p3, q3, rfl, rfl, rfl, h3, r3⟩ := trodAll_cons r2
  obtain ⟨rfl, rfl, rfl⟩ := trodAll_nil r3
  obtain rfl : args = #[v0, v1, v2, v3] := by cases args; simp_all
  obtain ⟨rfl, rfl⟩ := trodVars_none hV
  obtain ⟨cs0, rfl, hsz0⟩ := okWide_struct Try.underlying24 (hval 0 24 v0 rfl rfl)
  have k0 := h0
  have lt0 : ∀ x ∈ p0, x.block < W.heap.size := by obtain ⟨m, hm⟩ := k0; exact DataW.trod_lt m _ _ _ hm
  have w0 : Fits [some .u64, some .u64, some .u64] cs0.toList := by
    obtain ⟨fuel, hf⟩ := h0
    exact fits_of_trod 8 24 _ fuel _ _ (by kernel_rfl) (by simpa [Value.cells] using hf)
  obtain ⟨a1, rfl, rfl, rfl, w1⟩ := open_int Try.underlying22 (hval 1 22 v1 rfl rfl) h1
  obtain ⟨a2, rfl, rfl, rfl, w2⟩ := open_int Try.underlying22 (hval 2 22 v2 rfl rfl) h2
  obtain ⟨a3, rfl, rfl, rfl, w3⟩ := open_int Try.underlying22 (hval 3 22 v3 rfl rfl) h3
  clear hA0 hval0
  refine (walk cs0 a1 a2 a3 W w0 (wfU64 w1) (wfU64 w2) (wfU64 w3)).mono fun e W' ⟨he, bel⟩ => ?_
  subst he
  exact ⟨_, rfl, _, _, _, [], _, [], hW', trodAll_mk1 (shut_bool Try.underlying4 _), (trodAll_cons_mk (Below.trod laidOut (by kernel_rfl) (of_decide_eq_true (by kernel_rfl)) k0 bel lt0) (trodAll_cons_mk (shut_int Try.underlying22 w1) (trodAll_cons_mk (shut_int Try.underlying22 w2) (trodAll_cons_mk (shut_int Try.underlying22 w3) trodAll_mk0)))), rfl, bel.frame _, fun h => by cases h⟩

theorem over : Rows.pacerTakesRow.holds Try.pinned (OpenSpec.ofChange Rows.pacerTakesSpec) :=
  OpenClaim.holds_of_wide 3 Try.f3 rfl rfl rfl rfl rfl rfl rfl ⟨rfl, rfl, rfl, rfl, rfl⟩ rfl rfl rfl rfl rfl (by kernel_rfl) Try.func3 (by kernel_rfl)
    (of_decide_eq_true (by kernel_rfl)) (by unfold Func.isWrapper; first | (rw [if_pos (by decide +kernel)]; kernel_rfl) | (rw [if_neg (by decide +kernel)]; exact ⟨rfl, rfl⟩))
    (fun os started H enc _ => lifted os started H enc)

/-- THE STATEMENT -/
theorem proved : Rows.PacerTakesSaid := over
end Go.Proofs.Ytanebjapcpbdnaa.pacerTakes
