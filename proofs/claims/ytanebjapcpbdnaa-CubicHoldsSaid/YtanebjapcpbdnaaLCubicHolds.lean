/- For all windows w, 32-bit acked, 16-bit mss and words now, smooth, CubicHolds returns true: a window grows by half of itself for a window that was acknowledged, at most, or to the fair one. No condition. -/
import Derived.Test.YtanebjapcpbdnaaBase
import Derived.Test.YtanebjapcpbdnaaAliveCubic
import Derived.Test.YtanebjapcpbdnaaGrowLaw
namespace Go.Proofs.Ytanebjapcpbdnaa.cubicHolds
open Go.ChangeShapes Go.WideShapes Go.ChangeAt Go.RowKit Go.Lib
set_option linter.unusedVariables false

theorem openWin {cs : Array Value} (h : Fits [some .u64, some .u64, some .u64, some .u64, some .u64, some .u64, some .u64] cs.toList) :
    ∃ c t a p e k f : Int, cs = #[.int .u64 c, .int .u64 t, .int .u64 a, .int .u64 p, .int .u64 e, .int .u64 k, .int .u64 f] ∧ W64 c ∧ W64 t ∧ W64 a ∧ W64 p ∧ W64 e ∧ W64 k ∧ W64 f := by
  obtain ⟨l⟩ := cs
  rcases l with _ | ⟨v0, _ | ⟨v1, _ | ⟨v2, _ | ⟨v3, _ | ⟨v4, _ | ⟨v5, _ | ⟨v6, _ | ⟨v7, l⟩⟩⟩⟩⟩⟩⟩⟩ <;> simp only [Fits, and_false] at h
  obtain ⟨⟨c, rfl, h0⟩, ⟨t, rfl, h1⟩, ⟨a, rfl, h2⟩, ⟨p, rfl, h3⟩, ⟨e, rfl, h4⟩, ⟨k, rfl, h5⟩, ⟨f, rfl, h6⟩, _⟩ := h
  exact ⟨c, t, a, p, e, k, f, rfl, wfU64 h0, wfU64 h1, wfU64 h2, wfU64 h3, wfU64 h4, wfU64 h5, wfU64 h6⟩

set_option maxHeartbeats 1500000 in
theorem walkYes (c t a p e k f ak m n s : Int) (w : World) (wc : W64 c) (wt : W64 t) (wp : W64 p) (we : W64 e) (wk : W64 k) (wf : W64 f) (wak : 0 ≤ ak ∧ ak ≤ 4294967295) (wm : 0 ≤ m ∧ m ≤ 65535) (wn : W64 n) (ws : W64 s) (h : t ≤ (c % 1073741824 + 1)) :
    Calls Try.prog 14 #[.agg #[.int .u64 c, .int .u64 t, .int .u64 a, .int .u64 p, .int .u64 e, .int .u64 k, .int .u64 f], .int .u32 ak, .int .u16 m, .int .u64 n, .int .u64 s] w fun e w' => e = .returned (.bool true) ∧ Gr w w' := by
  obtain ⟨ak0, ak1⟩ := wak
  obtain ⟨m0, m1⟩ := wm
  have hc0 : 0 ≤ c % 1073741824 := Int.emod_nonneg _ (by omega)
  have hc1 : c % 1073741824 < 1073741824 := Int.emod_lt_of_pos _ (by omega)
  have hf0 : 0 ≤ f % 1073741824 := Int.emod_nonneg _ (by omega)
  have hf1 : f % 1073741824 < 1073741824 := Int.emod_lt_of_pos _ (by omega)
  have c0 : 0 ≤ c := wc.1
  have c1 : c ≤ 18446744073709551615 := wc.2
  have f0 : 0 ≤ f := wf.1
  have f1 : f ≤ 18446744073709551615 := wf.2
  have t0 : 0 ≤ t := wt.1
  obtain ⟨r1, r2, r3, r4, r5, r6⟩ := holds (c % 1073741824 + 1) t p e k (f % 1073741824) ak m n s ⟨by omega, by omega⟩ h ⟨by omega, by omega⟩ ⟨ak0, ak1⟩ ⟨m0, m1⟩
  have HC := Lib.hid (show W64 (c % 1073741824 + 1) from Wlit (by omega))
  have HF := Lib.hid (show W64 (f % 1073741824) from Wlit (by omega))
  have HAK := Lib.hid (show W64 ak from Wlit (by omega))
  have HM := Lib.hid (show W64 m from Wlit (by omega))
  have Hp := Lib.hid wp
  have He := Lib.hid we
  have Hk := Lib.hid wk
  have Hn := Lib.hid wn
  have Hs := Lib.hid ws
  have R2 := Lib.hid r2
  have hd : decide ((c % 1073741824 + 1) < t) = false := by rw [decide_eq_false_iff_not]; omega
  have hw1 : IntKind.u64.wrap (max (f % 1073741824) (c % 1073741824 + 1) + mulI m ak) = max (f % 1073741824) (c % 1073741824 + 1) + mulI m ak := by rw [IntKind.wrap_u64]; omega
  have hw2 : IntKind.u64.wrap ((c % 1073741824 + 1) + ak / 2) = (c % 1073741824 + 1) + ak / 2 := by rw [IntKind.wrap_u64]; omega
  have hwa : IntKind.u64.wrap ak = ak := by rw [IntKind.wrap_u64]; omega
  have hwm : IntKind.u64.wrap m = m := by rw [IntKind.wrap_u64]; omega
  have hwd : IntKind.u64.wrap (ak.tdiv 2) = ak / 2 := by rw [Int.tdiv_eq_ediv_of_nonneg ak0, IntKind.wrap_u64]; omega
  clear wc wt wp we wk wf wn ws r2
  by_cases q : (gwC (c % 1073741824 + 1) t p e k (f % 1073741824) ak m n s) ≤ (c % 1073741824 + 1) + ak / 2
  · go_enter Try.func14, Try.ntmps14
    go_wp2_with fail
    ((with_reducible refine (aliveCubic _).mono ?_); rintro e' w' ⟨rfl, n2, os2, rfl⟩)
    go_wp2_with fail
    ((with_reducible refine (tGrow (c % 1073741824 + 1) t a p e k (f % 1073741824) ak m n s HC.out Hp.out He.out Hk.out HF.out HAK.out HM.out Hn.out Hs.out _).mono ?_); rintro e' w' ⟨rfl, n3, os3, rfl⟩)
    go_wp2_with fail
    go_quiet ((go_at_call 23; first | exact qS' (rMul m ak HM.out HAK.out _) | exact qS (rMul m ak HM.out HAK.out _)))
    go_wp2_with fail
    go_ret
    exact ⟨rfl, by repeat (first | exact Gr.refl _ | apply Gr.drewN | apply Gr.drew | apply Gr.gw | apply Gr.alloc)⟩
  · have Q := Lib.hid (R2.out.resolve_left q)
    have qq : (c % 1073741824 + 1) + ak / 2 < (gwC (c % 1073741824 + 1) t p e k (f % 1073741824) ak m n s) := by omega
    have hq : ((gwC (c % 1073741824 + 1) t p e k (f % 1073741824) ak m n s) == (gwF (c % 1073741824 + 1) t p e (f % 1073741824) ak m)) = true := by rw [beq_iff_eq]; exact Q.out
    clear q
    go_enter Try.func14, Try.ntmps14
    go_wp2_with fail
    ((with_reducible refine (aliveCubic _).mono ?_); rintro e' w' ⟨rfl, n4, os4, rfl⟩)
    go_wp2_with fail
    ((with_reducible refine (tGrow (c % 1073741824 + 1) t a p e k (f % 1073741824) ak m n s HC.out Hp.out He.out Hk.out HF.out HAK.out HM.out Hn.out Hs.out _).mono ?_); rintro e' w' ⟨rfl, n5, os5, rfl⟩)
    go_wp2_with fail
    go_quiet ((go_at_call 23; first | exact qS' (rMul m ak HM.out HAK.out _) | exact qS (rMul m ak HM.out HAK.out _)))
    go_wp2_with fail
    go_ret
    exact ⟨rfl, by repeat (first | exact Gr.refl _ | apply Gr.drewN | apply Gr.drew | apply Gr.gw | apply Gr.alloc)⟩

set_option maxHeartbeats 2000000 in
theorem walkG (c t a p e k f ak m n s : Int) (w : World) (wc : W64 c) (wt : W64 t) (wp : W64 p) (we : W64 e) (wk : W64 k) (wf : W64 f) (wak : 0 ≤ ak ∧ ak ≤ 4294967295) (wm : 0 ≤ m ∧ m ≤ 65535) (wn : W64 n) (ws : W64 s) :
    Calls Try.prog 14 #[.agg #[.int .u64 c, .int .u64 t, .int .u64 a, .int .u64 p, .int .u64 e, .int .u64 k, .int .u64 f], .int .u32 ak, .int .u16 m, .int .u64 n, .int .u64 s] w fun e w' => e = .returned (.bool true) ∧ Gr w w' := by
  by_cases h : t ≤ (c % 1073741824 + 1)
  · exact walkYes c t a p e k f ak m n s w wc wt wp we wk wf wak wm wn ws h
  · have h' : (c % 1073741824 + 1) < t := by omega
    clear h
    obtain ⟨ak0, ak1⟩ := wak
    obtain ⟨m0, m1⟩ := wm
    have hc0 : 0 ≤ c % 1073741824 := Int.emod_nonneg _ (by omega)
    have hc1 : c % 1073741824 < 1073741824 := Int.emod_lt_of_pos _ (by omega)
    have hf0 : 0 ≤ f % 1073741824 := Int.emod_nonneg _ (by omega)
    have hf1 : f % 1073741824 < 1073741824 := Int.emod_lt_of_pos _ (by omega)
    have c0 : 0 ≤ c := wc.1
    have c1 : c ≤ 18446744073709551615 := wc.2
    have f0 : 0 ≤ f := wf.1
    have f1 : f ≤ 18446744073709551615 := wf.2
    have t0 : 0 ≤ t := wt.1
    clear wc wt wp we wk wf wn ws
    go_enter Try.func14, Try.ntmps14
    go_wp2_with fail
    ((with_reducible refine (aliveCubic _).mono ?_); rintro e' w' ⟨rfl, n6, os6, rfl⟩)
    go_wp2_with fail
    ((with_reducible refine (aliveCubic _).mono ?_); rintro e' w' ⟨rfl, n7, os7, rfl⟩)
    go_wp2_with fail
    go_ret
    exact ⟨rfl, by repeat (first | exact Gr.refl _ | apply Gr.drewN | apply Gr.drew | apply Gr.gw | apply Gr.alloc)⟩

theorem walk (cs0 : Array Value) (a1 a2 a3 a4 : Int) (w : World) (w0 : Fits [some .u64, some .u64, some .u64, some .u64, some .u64, some .u64, some .u64] cs0.toList) (w1 : 0 ≤ a1 ∧ a1 ≤ 4294967295) (w2 : 0 ≤ a2 ∧ a2 ≤ 65535) (w3 : W64 a3) (w4 : W64 a4) :
    Calls Try.prog 14 #[.agg cs0, .int .u32 a1, .int .u16 a2, .int .u64 a3, .int .u64 a4] w fun e w' => e = .returned (.bool true) ∧ Below w.heap.size w w' := by
  obtain ⟨c, t, a, p, e, k, f, rfl, hc, ht, ha, hp, he, hk, hf⟩ := openWin w0
  exact (walkG c t a p e k f a1 a2 a3 a4 w hc ht hp he hk hf w1 w2 w3 w4).mono fun _ _ h => ⟨h.1, h.2.below⟩

/-! ### the row's step -/
set_option maxRecDepth 100000 in
theorem lifted (os : Os) (started : os.Started) (H : Type) (enc : TypeId × Value → H) :
    ReturnsInHanded {} Try.checked os 14 .any (Rows.cubicHoldsSpec.pre6 enc Try.prog Try.f14 Rows.cubicHoldsRow.domain false) (Rows.cubicHoldsSpec.post enc Try.prog Try.f14 false true false false) := by
  refine returnsInHanded_of_change (C := Try.checked) own started (by kernel_rfl) Try.func14
    (ChangeSpec.witness6 (enc := enc) (C := Try.checked) false ⟨#[], #[.agg #[.int .u64 0, .int .u64 0, .int .u64 0, .int .u64 0, .int .u64 0, .int .u64 0, .int .u64 0], .int .u32 0, .int .u16 0, .int .u64 0, .int .u64 0], []⟩ 8 (by kernel_rfl) (by kernel_rfl) (by kernel_rfl) (by kernel_rfl)) ?_
  intro W base args ds gs before hval0 hW hcnd _
  have hval : ∀ (j : Nat) t v, Try.f14.params[j]? = some t → args[j]? = some v → Value.okWide Try.prog W .any base t v := hval0
  have hW' := hW
  obtain ⟨p, q, hA0, hV, rfl, hfz, hnd⟩ := hW
  have hA : DataW.TrodAll enc Try.prog W 0 (fun _ => true) true Try.f14.params.toList args.toList ds p := hA0
  rw [Try.params14] at hA hval
  obtain ⟨v0, vs0, d0, ds0, p0, q0, hargs, rfl, rfl, h0, r0⟩ := trodAll_cons hA
  obtain ⟨v1, vs1, d1, ds1, p1, q1, rfl, rfl, rfl, h1, r1⟩ := trodAll_cons r0
  obtain ⟨v2, vs2, d2, ds2, p2, q2, rfl, rfl, rfl, h2, r2⟩ := trodAll_cons r1
  obtain ⟨v3, vs3, d3, ds3, p3, q3, rfl, rfl, rfl, h3, r3⟩ := trodAll_cons r2
  obtain ⟨v4, vs4, d4, ds4, p4, q4, rfl, rfl, rfl, h4, r4⟩ := trodAll_cons r3
  obtain ⟨rfl, rfl, rfl⟩ := trodAll_nil r4
  obtain rfl : args = #[v0, v1, v2, v3, v4] := by cases args; simp_all
  obtain ⟨rfl, rfl⟩ := trodVars_none hV
  obtain ⟨cs0, rfl, hsz0⟩ := okWide_struct Try.underlying47 (hval 0 47 v0 rfl rfl)
  have k0 := h0
  have lt0 : ∀ x ∈ p0, x.block < W.heap.size := by obtain ⟨m, hm⟩ := k0; exact DataW.trod_lt m _ _ _ hm
  have w0 : Fits [some .u64, some .u64, some .u64, some .u64, some .u64, some .u64, some .u64] cs0.toList := by
    obtain ⟨fuel, hf⟩ := h0
    exact fits_of_trod 8 47 _ fuel _ _ (by kernel_rfl) (by simpa [Value.cells] using hf)
  obtain ⟨a1, rfl, rfl, rfl, w1⟩ := open_int Try.underlying31 (hval 1 31 v1 rfl rfl) h1
  obtain ⟨a2, rfl, rfl, rfl, w2⟩ := open_int Try.underlying32 (hval 2 32 v2 rfl rfl) h2
  obtain ⟨a3, rfl, rfl, rfl, w3⟩ := open_int Try.underlying22 (hval 3 22 v3 rfl rfl) h3
  obtain ⟨a4, rfl, rfl, rfl, w4⟩ := open_int Try.underlying22 (hval 4 22 v4 rfl rfl) h4
  clear hA0 hval0
  refine (walk cs0 a1 a2 a3 a4 W w0 (wfU32 w1) (wfU16 w2) (wfU64 w3) (wfU64 w4)).mono fun e W' ⟨he, bel⟩ => ?_
  subst he
  exact ⟨_, rfl, _, _, _, [], _, [], hW', trodAll_mk1 (shut_bool Try.underlying4 _), (trodAll_cons_mk (Below.trod laidOut (by kernel_rfl) (of_decide_eq_true (by kernel_rfl)) k0 bel lt0) (trodAll_cons_mk (shut_int Try.underlying31 w1) (trodAll_cons_mk (shut_int Try.underlying32 w2) (trodAll_cons_mk (shut_int Try.underlying22 w3) (trodAll_cons_mk (shut_int Try.underlying22 w4) trodAll_mk0))))), rfl, bel.frame _, fun h => by cases h⟩

theorem over : Rows.cubicHoldsRow.holds Try.pinned (OpenSpec.ofChange Rows.cubicHoldsSpec) :=
  OpenClaim.holds_of_wide 14 Try.f14 rfl rfl rfl rfl rfl rfl rfl ⟨rfl, rfl, rfl, rfl, rfl⟩ rfl rfl rfl rfl rfl (by kernel_rfl) Try.func14 (by kernel_rfl)
    (of_decide_eq_true (by kernel_rfl)) (by unfold Func.isWrapper; first | (rw [if_pos (by decide +kernel)]; kernel_rfl) | (rw [if_neg (by decide +kernel)]; exact ⟨rfl, rfl⟩))
    (fun os started H enc _ => lifted os started H enc)

/-- THE STATEMENT -/
theorem proved : Rows.CubicHoldsSaid := over
end Go.Proofs.Ytanebjapcpbdnaa.cubicHolds
