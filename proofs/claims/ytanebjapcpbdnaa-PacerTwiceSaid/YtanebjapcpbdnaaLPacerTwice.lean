/- For all buckets p and words burst, now, later, PacerTwice returns true: filling a bucket on the way changes nothing. No condition. -/
import Derived.Test.YtanebjapcpbdnaaBase
import Derived.Test.YtanebjapcpbdnaaAlivePacer
namespace Go.Proofs.Ytanebjapcpbdnaa.pacerTwice
open Go.ChangeShapes Go.WideShapes Go.ChangeAt Go.RowKit Go.Lib
set_option linter.unusedVariables false

theorem openPace {cs : Array Value} (h : Fits [some .u64, some .u64, some .u64] cs.toList) : ∃ t a r : Int, cs = #[.int .u64 t, .int .u64 a, .int .u64 r] ∧ W64 t ∧ W64 a ∧ W64 r := by
  obtain ⟨l⟩ := cs
  rcases l with _ | ⟨v0, _ | ⟨v1, _ | ⟨v2, _ | ⟨v3, l⟩⟩⟩⟩ <;> simp only [Fits, and_false] at h
  obtain ⟨⟨t, rfl, h0⟩, ⟨a, rfl, h1⟩, ⟨r, rfl, h2⟩, _⟩ := h
  exact ⟨t, a, r, rfl, wfU64 h0, wfU64 h1, wfU64 h2⟩

theorem twice (t a r b n s : Int) (h : n ≤ s) (ht : W64 t) (ha : W64 a) (hr : W64 r) (hb : W64 b) (hn : W64 n) (hs : W64 s) : fillT (fillT t a r b n) (max a n) r b s = fillT t a r b s ∧ max (max a n) s = max a s := by
  refine ⟨?_, by omega⟩
  have f := fullI_W hb
  have x0 := Int.mul_nonneg hr.1 (subI_W n a hn ha).1
  have y0 := Int.mul_nonneg hr.1 (subI_W s (max a n) hs (max_W ha hn)).1
  have e : subI s a = subI n a + subI s (max a n) := by unfold subI; omega
  have m : r * subI s a = r * subI n a + r * subI s (max a n) := by rw [e, Int.mul_add]
  unfold W64 at *
  unfold fillT addI mulI
  rw [m]
  generalize r * subI n a = x at *
  generalize r * subI s (max a n) = y at *
  omega

set_option maxHeartbeats 8000000 in
theorem walkP0 (t a r b n s : Int) (w : World) (h : n ≤ s) (ht : W64 t) (ha : W64 a) (hr : W64 r) (hb : W64 b) (hn : W64 n) (hs : W64 s) :
    Calls Try.prog 4 #[.agg #[.int .u64 t, .int .u64 a, .int .u64 r], .int .u64 b, .int .u64 n, .int .u64 s] w fun e w' => e = .returned (.bool true) ∧ Gr w w' := by
  have Ht := Lib.hid ht
  have Ha := Lib.hid ha
  have Hr := Lib.hid hr
  have Hb := Lib.hid hb
  have Hn := Lib.hid hn
  have Hs := Lib.hid hs
  have C3 : Hid (∀ w, Calls Try.prog 20 #[.agg #[.int .u64 (fillT t a r b n), .int .u64 (max a n), .int .u64 r], .int .u64 b, .int .u64 s] w fun e' w' => e' = .returned (.agg #[.int .u64 (fillT t a r b s), .int .u64 (max a s), .int .u64 r]) ∧ Gr w w') := by
    intro w
    have c := pcFill (fillT t a r b n) (max a n) r b s (fillT_W ht ha hr hb hn) (max_W ha hn) hr hb hs w
    obtain ⟨t1, t2⟩ := twice t a r b n s h ht ha hr hb hn hs
    rw [t1, t2] at c
    exact c
  have hd : decide (s < n) = false := by rw [decide_eq_false_iff_not]; omega
  clear ht ha hr hb hn hs
  go_enter Try.func4, Try.ntmps4
  go_wp2_with fail
  refine (alivePacer _).mono ?_; rintro e' w' ⟨rfl, n1, os1, rfl⟩
  go_wp2_with fail
  go_region_held3 (fun w' => w'.cell? ⟨w.heap.size, 0, none⟩ = some (.int .u64 t) ∧ w'.cell? ⟨w.heap.size, 1, none⟩ = some (.int .u64 a) ∧ w'.cell? ⟨w.heap.size, 2, none⟩ = some (.int .u64 r)) (first | go_simp | go_keep)
    (first
      | (go_at_call 20; ((with_reducible refine (pcFill t a r b n Ht.out Ha.out Hr.out Hb.out Hn.out _).mono ?_); rintro e' w' ⟨rfl, n2, os2, rfl⟩))
      | (go_at_call 20; ((with_reducible refine (pcFill t a r b s Ht.out Ha.out Hr.out Hb.out Hs.out _).mono ?_); rintro e' w' ⟨rfl, n3, os3, rfl⟩))
      | (go_at_call 20; ((with_reducible refine (C3.out _).mono ?_); rintro e' w' ⟨rfl, n4, os4, rfl⟩)))
  go_wp2_with fail
  go_ret
  exact ⟨rfl, by repeat (first | exact Gr.refl _ | apply Gr.drewN | apply Gr.drew | apply Gr.gw | apply Gr.alloc)⟩

set_option maxHeartbeats 2000000 in
theorem walkP (t a r b n s : Int) (w : World) (ht : W64 t) (ha : W64 a) (hr : W64 r) (hb : W64 b) (hn : W64 n) (hs : W64 s) :
    Calls Try.prog 4 #[.agg #[.int .u64 t, .int .u64 a, .int .u64 r], .int .u64 b, .int .u64 n, .int .u64 s] w fun e w' => e = .returned (.bool true) ∧ Gr w w' := by
  by_cases h : n ≤ s
  · exact walkP0 t a r b n s w h ht ha hr hb hn hs
  · have hd : s < n := by omega
    clear ht ha hr hb hn hs h
    go_enter Try.func4, Try.ntmps4
    go_wp2_with fail
    refine (alivePacer _).mono ?_; rintro e' w' ⟨rfl, n1, os1, rfl⟩
    go_wp2_with fail
    refine (alivePacer _).mono ?_; rintro e' w' ⟨rfl, n2, os2, rfl⟩
    go_wp2_with fail
    go_ret
    exact ⟨rfl, by repeat (first | exact Gr.refl _ | apply Gr.drewN | apply Gr.drew | apply Gr.gw | apply Gr.alloc)⟩

theorem walk (cs0 : Array Value) (a1 a2 a3 : Int) (w : World) (w0 : Fits [some .u64, some .u64, some .u64] cs0.toList) (w1 : W64 a1) (w2 : W64 a2) (w3 : W64 a3) :
    Calls Try.prog 4 #[.agg cs0, .int .u64 a1, .int .u64 a2, .int .u64 a3] w fun e w' => e = .returned (.bool true) ∧ Below w.heap.size w w' := by
  obtain ⟨t, a, r, rfl, ht, ha, hr⟩ := openPace w0
  exact (walkP t a r a1 a2 a3 w ht ha hr w1 w2 w3).mono fun _ _ h => ⟨h.1, h.2.below⟩

/-! ### the row's step -/
set_option maxRecDepth 100000 in
theorem lifted (os : Os) (started : os.Started) (H : Type) (enc : TypeId × Value → H) :
    ReturnsInHanded {} Try.checked os 4 .any (Rows.pacerTwiceSpec.pre6 enc Try.prog Try.f4 Rows.pacerTwiceRow.domain false) (Rows.pacerTwiceSpec.post enc Try.prog Try.f4 false true false false) := by
  refine returnsInHanded_of_change (C := Try.checked) own started (by kernel_rfl) Try.func4
    (ChangeSpec.witness6 (enc := enc) (C := Try.checked) false ⟨#[], #[.agg #[.int .u64 0, .int .u64 0, .int .u64 0], .int .u64 0, .int .u64 0, .int .u64 0], []⟩ 8 (by kernel_rfl) (by kernel_rfl) (by kernel_rfl) (by kernel_rfl)) ?_
  intro W base args ds gs before hval0 hW hcnd _
  have hval : ∀ (j : Nat) t v, Try.f4.params[j]? = some t → args[j]? = some v → Value.okWide Try.prog W .any base t v := hval0
  have hW' := hW
  obtain ⟨p, q, hA0, hV, rfl, hfz, hnd⟩ := hW
  have hA : DataW.TrodAll enc Try.prog W 0 (fun _ => true) true Try.f4.params.toList args.toList ds p := hA0
  rw [Try.params4] at hA hval
  obtain ⟨v0, vs0, d0, ds0, p0, q0, hargs, rfl, rfl, h0, r0⟩ := trodAll_cons hA
  obtain ⟨v1, vs1, d1, ds1, p1, q1, rfl, rfl, rfl, h1, r1⟩ := trodAll_cons r0
  obtain ⟨v2, vs2, d2, ds2, p2, q2, rfl, rfl, rfl, h2, r2⟩ := trodAll_cons r1
  obtain ⟨v3, vs3, d3, ds3, p3, q3, rfl, rfl, rfl, h3, r3⟩ := trodAll_cons r2
  obtain ⟨rfl, rfl, rfl⟩ := trodAll_nil r3
  obtain rfl : args = #[v0, v1, v2, v3] := by cases args; simp_all
  obtain ⟨rfl, rfl⟩ := trodVars_none hV
  obtain ⟨cs0, rfl, hsz0⟩ := okWide_struct Try.underlying24 (hval 0 24 v0 rfl rfl)
  have k0 := h0
  have lt0 : ∀ x ∈ p0, x.block < W.heap.size := by obtain ⟨m, hm⟩ := k0; exact DataW.trod_lt m _ _ _ hm
  have w0 : Fits [some .u64, some .u64, some .u64] cs0.toList := by
    obtain ⟨fuel, hf⟩ := h0
    exact fits_of_trod 8 24 _ fuel _ _ (by kernel_rfl) (by simpa [Value.cells] using hf)
  obtain ⟨a1, rfl, rfl, rfl, w1⟩ := open_int Try.underlying22 (hval 1 22 v1 rfl rfl) h1
  obtain ⟨a2, rfl, rfl, rfl, w2⟩ := open_int Try.underlying22 (hval 2 22 v2 rfl rfl) h2
  obtain ⟨a3, rfl, rfl, rfl, w3⟩ := open_int Try.underlying22 (hval 3 22 v3 rfl rfl) h3
  clear hA0 hval0
  refine (walk cs0 a1 a2 a3 W w0 (wfU64 w1) (wfU64 w2) (wfU64 w3)).mono fun e W' ⟨he, bel⟩ => ?_
  subst he
  exact ⟨_, rfl, _, _, _, [], _, [], hW', trodAll_mk1 (shut_bool Try.underlying4 _), (trodAll_cons_mk (Below.trod laidOut (by kernel_rfl) (of_decide_eq_true (by kernel_rfl)) k0 bel lt0) (trodAll_cons_mk (shut_int Try.underlying22 w1) (trodAll_cons_mk (shut_int Try.underlying22 w2) (trodAll_cons_mk (shut_int Try.underlying22 w3) trodAll_mk0)))), rfl, bel.frame _, fun h => by cases h⟩

theorem over : Rows.pacerTwiceRow.holds Try.pinned (OpenSpec.ofChange Rows.pacerTwiceSpec) :=
  OpenClaim.holds_of_wide 4 Try.f4 rfl rfl rfl rfl rfl rfl rfl ⟨rfl, rfl, rfl, rfl, rfl⟩ rfl rfl rfl rfl rfl (by kernel_rfl) Try.func4 (by kernel_rfl)
    (of_decide_eq_true (by kernel_rfl)) (by unfold Func.isWrapper; first | (rw [if_pos (by decide +kernel)]; kernel_rfl) | (rw [if_neg (by decide +kernel)]; exact ⟨rfl, rfl⟩))
    (fun os started H enc _ => lifted os started H enc)

/-- THE STATEMENT -/
theorem proved : Rows.PacerTwiceSaid := over
end Go.Proofs.Ytanebjapcpbdnaa.pacerTwice
