/- For all slices of words, RttBetween returns true: the smoothed time lies from the least to the greatest measure, the variance is at most the greatest, and the least is the least. No condition. -/
import Derived.Test.YtbgbeadhpcikhaaBase
import Derived.Test.YtbgbeadhpcikhaaAliveRtt
namespace Go.Proofs.Ytbgbeadhpcikhaa.rttBetween
open Go.ChangeShapes Go.WideShapes Go.ChangeAt Go.RowKit Go.Lib
set_option linter.unusedVariables false

theorem below_gw {B : Nat} {a w : World} (h : Below B a w) (hB : B ≤ w.heap.size) (os : Array Obj) : Below B a (gw w os) :=
  h.trans ((Gr.refl w).gw os |>.below.mono hB)

/-- what holds of the estimate behind each measure -/
structure Betw (lo hi s v m : Int) : Prop where
  lo0 : 0 ≤ lo
  hi1 : hi ≤ 18446744073709551615
  s0 : lo ≤ s
  s1 : s ≤ hi
  v0 : 0 ≤ v
  v1 : v ≤ hi
  m : m = lo

theorem Betw.first {x : Int} (h : W64 x) : Betw x x x (x / 2) x := by
  unfold W64 at h
  exact ⟨by omega, by omega, by omega, by omega, by omega, by omega, rfl⟩
theorem Betw.next {lo hi s v m x : Int} (h : W64 x) (b : Betw lo hi s v m) : Betw (min lo x) (max hi x) (mixI 7 s x) (mixI 3 v (diffI s x)) (min m x) := by
  obtain ⟨h1, h2, h3, h4, h5, h6, rfl⟩ := b
  unfold W64 at h
  unfold mixI diffI
  exact ⟨by omega, by omega, by omega, by omega, by omega, by omega, rfl⟩

set_option maxHeartbeats 400000 in
theorem walkShort (a : Option Addr) (len cap : Nat) (w : World) (h : len = 0 ∨ 500 < len) (hl : len ≤ 9223372036854775807) :
    Calls Try.prog 11 #[.slice a len cap] w fun e w' => e = .returned (.bool true) ∧ Below w.heap.size w w' := by
  rcases h with rfl | h
  · go_enter Try.func11, Try.ntmps11
    go_wp2_with fail
    refine (aliveRtt _).mono ?_; rintro e' w' ⟨rfl, n1, os1, rfl⟩
    go_wp2_with fail
    refine (aliveRtt _).mono ?_; rintro e' w' ⟨rfl, n2, os2, rfl⟩
    go_wp2_with fail
    go_ret
    exact ⟨rfl, Gr.below (by repeat (first | exact Gr.refl _ | apply Gr.drewN | apply Gr.drew | apply Gr.gw | apply Gr.alloc))⟩
  · obtain ⟨n, hn⟩ : ∃ n : Int, (len : Int) = n := ⟨_, rfl⟩
    have e0 : ((len : Int) == 0) = false := by rw [beq_eq_false_iff_ne]; omega
    have e1 : decide (500 < (len : Int)) = true := by rw [decide_eq_true_eq]; omega
    have e2 : (500 : Int) < (len : Int) := by omega
    clear hn
    go_enter Try.func11, Try.ntmps11
    go_wp2_with fail
    refine (aliveRtt _).mono ?_; rintro e' w' ⟨rfl, n1, os1, rfl⟩
    go_wp2_with fail
    refine (aliveRtt _).mono ?_; rintro e' w' ⟨rfl, n2, os2, rfl⟩
    go_wp2_with fail
    go_ret
    exact ⟨rfl, Gr.below (by repeat (first | exact Gr.refl _ | apply Gr.drewN | apply Gr.drew | apply Gr.gw | apply Gr.alloc))⟩

set_option maxHeartbeats 4000000 in
theorem walkLong (b off len cap : Nat) (z : Nat → Int) (w : World) (h0 : 0 < len) (h1 : len ≤ 500) (hb : b < w.heap.size)
    (hcell : ∀ i, i < len → w.cell? ⟨b, off + i, none⟩ = some (.int .u64 (z i))) (hwz : ∀ i, i < len → W64 (z i)) :
    Calls Try.prog 11 #[.slice (some ⟨b, off, none⟩) len cap] w fun e w' => e = .returned (.bool true) ∧ Below w.heap.size w w' := by
  have e0 : ((len : Int) == 0) = false := by rw [beq_eq_false_iff_ne]; omega
  have e1 : (len : Int) ≤ 500 := by omega
  have e2 : (0 : Int) < (len : Int) := by omega
  have c0 : w.cell? ⟨b, off, none⟩ = some (.int .u64 (z 0)) := hcell 0 h0
  have HC := Lib.hid hcell
  have HW := Lib.hid hwz
  have hbs : ∀ s : Nat, b < w.heap.size + s := fun s => by omega
  clear hcell hwz
  go_enter Try.func11, Try.ntmps11
  go_wp2_with fail
  refine (aliveRtt _).mono ?_; rintro e' w' ⟨rfl, n1, os1, rfl⟩
  go_wp2_with fail
  go_quiet (fail)
  go_wp2_with fail
  go_loopw [4, 5, 28] (fun lo hi i wr => ∃ (k : Nat) (h : Bool) (l s v m lo' hi' : Int), i = .int .i64 (k : Int) ∧ k ≤ len ∧ lo = .int .u64 lo' ∧ hi = .int .u64 hi' ∧
      Hid ((k = 0 ∧ h = false ∧ lo' = z k ∧ hi' = z k) ∨ (0 < k ∧ h = true ∧ Betw lo' hi' s v m)) ∧
      wr.cell? ⟨w.heap.size + os1.size, 0, none⟩ = some (.bool h) ∧ wr.cell? ⟨w.heap.size + os1.size, 1, none⟩ = some (.int .u64 l) ∧ wr.cell? ⟨w.heap.size + os1.size, 2, none⟩ = some (.int .u64 s) ∧
      wr.cell? ⟨w.heap.size + os1.size, 3, none⟩ = some (.int .u64 v) ∧ wr.cell? ⟨w.heap.size + os1.size, 4, none⟩ = some (.int .u64 m) ∧
      (∀ j, j < 5 → wr.frozen? ⟨w.heap.size + os1.size, j, none⟩ = false) ∧ w.heap.size + os1.size < wr.heap.size ∧ Below w.heap.size w wr) (fun _ _ i _ => (len - intOf i).toNat)
  case atStart =>
    refine ⟨0, false, 0, 0, 0, 0, z 0, z 0, rfl, by omega, rfl, rfl, .inl ⟨rfl, rfl, rfl, rfl⟩, by go_simp, by go_simp, by go_simp, by go_simp, by go_simp, ?_, by simp, ?_⟩
    · intro j hj
      rcases (by omega : j = 0 ∨ j = 1 ∨ j = 2 ∨ j = 3 ∨ j = 4) with rfl | rfl | rfl | rfl | rfl <;> go_simp
    · exact Gr.below (by repeat (first | exact Gr.refl _ | apply Gr.drewN | apply Gr.drew | apply Gr.gw | apply Gr.alloc))
  case round =>
    obtain ⟨k, h, l, s, v, m, lo', hi', rfl, hk, rfl, rfl, hst, d0, d1, d2, d3, d4, hfz, hB, hbel⟩ := hrel
    have f0 := hfz 0 (by omega)
    have f1 := hfz 1 (by omega)
    have f2 := hfz 2 (by omega)
    have f3 := hfz 3 (by omega)
    have f4 := hfz 4 (by omega)
    have HBel := Lib.hid hbel
    have hB2 : ∀ s : Nat, w.heap.size + os1.size < wr.heap.size + s := fun s => by omega
    have hb2 : b < wr.heap.size := by have := hbel.size; omega
    clear hfz
    by_cases hlt : k < len
    · have ck : wr.cell? ⟨b, off + k, none⟩ = some (.int .u64 (z k)) := by rw [hbel.cell hb]; exact HC.out k hlt
      have HX := Lib.hid (HW.out k hlt)
      have hlt' : (k : Int) < (len : Int) := by omega
      have hk0 : (0 : Int) ≤ (k : Int) := by omega
      clear hbel
      rcases hst.out with ⟨hk1, rfl, rfl, rfl⟩ | ⟨hk1, rfl, hbt⟩
      · clear hk1
        have hfirst := Lib.hid (Betw.first HX.out)
        have t1 : decide (z k < z k / 2) = false := by rw [decide_eq_false_iff_not]; have := HX.out.1; omega
        have t4 : min (z k) (z k) = z k := Int.min_self _
        have t5 : max (z k) (z k) = z k := Int.max_self _
        go_wp2_with fail
        refine region_tail 5 (by kernel_rfl) (by kernel_rfl) ?_
        simp only [List.take_succ_cons, List.take_zero, List.drop_succ_cons, List.drop_zero]
        repeat still_step
        refine wpStill_nil ?_
        go_wp2_with fail
        refine (tSampleNo _ _ _ _ _ HX.out _).mono ?_; rintro e' w' ⟨rfl, n3, os3, rfl⟩
        go_wp2_with fail
        go_quiet (fail)
        go_wp2_with fail
        go_quiet (fail)
        go_wp2_with fail
        go_roundw
        case rel =>
          refine ⟨k + 1, true, z k, z k, z k / 2, z k, _, _, by congr 1, by omega, rfl, rfl, .inr ⟨by omega, rfl, hfirst.out⟩, by go_simp, by go_simp, by go_simp, by go_simp, by go_simp, ?_, by go_simp, ?_⟩
          · intro j hj
            rcases (by omega : j = 0 ∨ j = 1 ∨ j = 2 ∨ j = 3 ∨ j = 4) with rfl | rfl | rfl | rfl | rfl <;> go_simp
          · have hs := HBel.out.size
            repeat (first | exact HBel.out | apply below_drewN | apply Below.drew | refine below_gw ?_ (by simp; omega) _ | refine Below.alloc ?_ (by simp; omega) _ | refine Below.setCell ?_ (by simp) _)
        case measure => simp only [intOf]; omega
      · obtain ⟨g1, g2, g3, g4, g5, g6, rfl⟩ := hbt
        obtain ⟨y1, y2, y3, y4, y5, y6, _⟩ := Betw.next HX.out ⟨g1, g2, g3, g4, g5, g6, rfl⟩
        have HS := Lib.hid (show W64 s from Wlit (by omega))
        have HV := Lib.hid (show W64 v from Wlit (by omega))
        have t1 : decide (mixI 7 s (z k) < min m (z k)) = false := by rw [decide_eq_false_iff_not]; omega
        have t2 : decide (max hi' (z k) < mixI 7 s (z k)) = false := by rw [decide_eq_false_iff_not]; omega
        have t3 : decide (max hi' (z k) < mixI 3 v (diffI s (z k))) = false := by rw [decide_eq_false_iff_not]; omega
        go_wp2_with fail
        refine region_tail 5 (by kernel_rfl) (by kernel_rfl) ?_
        simp only [List.take_succ_cons, List.take_zero, List.drop_succ_cons, List.drop_zero]
        repeat still_step
        refine wpStill_nil ?_
        go_wp2_with fail
        refine (tSampleYes _ _ _ _ _ HS.out HV.out HX.out _).mono ?_; rintro e' w' ⟨rfl, n3, os3, rfl⟩
        go_wp2_with fail
        go_quiet (fail)
        go_wp2_with fail
        go_quiet (fail)
        go_wp2_with fail
        go_roundw
        case rel =>
          refine ⟨k + 1, true, z k, mixI 7 s (z k), mixI 3 v (diffI s (z k)), min m (z k), _, _, by congr 1, by omega, rfl, rfl, .inr ⟨by omega, rfl, ⟨y1, y2, y3, y4, y5, y6, rfl⟩⟩, by go_simp, by go_simp, by go_simp, by go_simp, by go_simp, ?_, by go_simp, ?_⟩
          · intro j hj
            rcases (by omega : j = 0 ∨ j = 1 ∨ j = 2 ∨ j = 3 ∨ j = 4) with rfl | rfl | rfl | rfl | rfl <;> go_simp
          · have hs := HBel.out.size
            repeat (first | exact HBel.out | apply below_drewN | apply Below.drew | refine below_gw ?_ (by simp; omega) _ | refine Below.alloc ?_ (by simp; omega) _ | refine Below.setCell ?_ (by simp) _)
        case measure => simp only [intOf]; omega
    · clear hbel
      go_wp2_with fail
      go_ret
      exact ⟨rfl, HBel.out⟩

theorem addr_add (b off i : Nat) : (⟨b, off, none⟩ : Addr).add i = ⟨b, off + i, none⟩ := by
  simp only [Addr.add]
  split
  · rename_i h
    subst h
    rfl
  · rfl

theorem walk (a : Option Addr) (len cap : Nat) (zs : List Int) (w : World) (w0 : IsRow .u64 w a len cap zs) :
    Calls Try.prog 11 #[.slice a len cap] w fun e w' => e = .returned (.bool true) ∧ Below w.heap.size w w' := by
  rcases w0 with ⟨rfl, rfl, rfl, rfl⟩ | ⟨x, rfl, hl, hm, hz, hcell, hwz⟩
  · exact walkShort none 0 0 w (.inl rfl) (by omega)
  · unfold maxLen at hm
    by_cases h0 : len = 0 ∨ 500 < len
    · exact walkShort _ len cap w h0 (by omega)
    · obtain ⟨b, off, spot⟩ := x
      have hc := hcell 0 (by omega)
      have hspot : spot = none := by simpa [Addr.add] using World.cell?_spot hc
      subst hspot
      have hb : b < w.heap.size := by
        rcases Nat.lt_or_ge b w.heap.size with h | h
        · exact h
        · have : w.heap[b]? = none := by simp [h]
          simp [Addr.add, World.cell?, this] at hc
      exact walkLong b off len cap (fun i => zs.getD i 0) w (by omega) (by omega) hb (fun i hi => by have := hcell i (by omega); rwa [addr_add] at this) (fun i hi => by
        have hi : i < zs.length := by omega
        exact wfU64 (hwz _ (by rw [List.getD_eq_getElem?_getD, List.getElem?_eq_getElem hi]; exact List.getElem_mem hi)))

/-! ### the row's step -/
set_option maxRecDepth 100000 in
theorem lifted (os : Os) (started : os.Started) (H : Type) (enc : TypeId × Value → H) :
    ReturnsInHanded {} Try.checked os 11 .any (Rows.rttBetweenSpec.pre6 enc Try.prog Try.f11 Rows.rttBetweenRow.domain false) (Rows.rttBetweenSpec.post enc Try.prog Try.f11 false true false false) := by
  refine returnsInHanded_of_change (C := Try.checked) own started (by kernel_rfl) Try.func11
    (ChangeSpec.witness6 (enc := enc) (C := Try.checked) false ⟨#[], #[.slice none 0 0], []⟩ 8 (by kernel_rfl) (by kernel_rfl) (by kernel_rfl) (by kernel_rfl)) ?_
  intro W base args ds gs before hval0 hW hcnd _
  have hval : ∀ (j : Nat) t v, Try.f11.params[j]? = some t → args[j]? = some v → Value.okWide Try.prog W .any base t v := hval0
  have hW' := hW
  obtain ⟨p, q, hA0, hV, rfl, hfz, hnd⟩ := hW
  have hA : DataW.TrodAll enc Try.prog W 0 (fun _ => true) true Try.f11.params.toList args.toList ds p := hA0
  rw [Try.params11] at hA hval
  obtain ⟨v0, vs0, d0, ds0, p0, q0, hargs, rfl, rfl, h0, r0⟩ := trodAll_cons hA
  obtain ⟨rfl, rfl, rfl⟩ := trodAll_nil r0
  obtain rfl : args = #[v0] := by cases args; simp_all
  obtain ⟨rfl, rfl⟩ := trodVars_none hV
  obtain ⟨a0, len0, cap0, rfl⟩ := okWide_slice Try.underlying42 (hval 0 42 v0 rfl rfl)
  have k0 := h0
  have lt0 : ∀ x ∈ p0, x.block < W.heap.size := by obtain ⟨m, hm⟩ := k0; exact DataW.trod_lt m _ _ _ hm
  obtain ⟨z0, w0⟩ : ∃ zs, IsRow .u64 W a0 len0 cap0 zs := by
    obtain ⟨fuel, hf⟩ := h0
    rcases open_ints Try.underlying42 Try.underlying22 (by kernel_rfl) hf with ⟨hcs, _⟩ | ⟨x, l, c, zs, hcs, _, hl, hm, hz, _, hcell, hwz⟩
    · simp [Value.cells] at hcs
      obtain ⟨rfl, rfl, rfl⟩ := hcs
      exact ⟨[], .inl ⟨rfl, rfl, rfl, rfl⟩⟩
    · simp [Value.cells] at hcs
      obtain ⟨rfl, rfl, rfl⟩ := hcs
      exact ⟨zs, .inr ⟨_, rfl, hl, hm, by simpa using hz, hcell, hwz⟩⟩
  clear hA0 hval0
  refine (walk a0 len0 cap0 z0 W w0).mono fun e W' ⟨he, bel⟩ => ?_
  subst he
  exact ⟨_, rfl, _, _, _, [], _, [], hW', trodAll_mk1 (shut_bool Try.underlying4 _), (trodAll_cons_mk (Below.trod laidOut (by kernel_rfl) (of_decide_eq_true (by kernel_rfl)) k0 bel lt0) trodAll_mk0), rfl, bel.frame _, fun h => by cases h⟩

theorem over : Rows.rttBetweenRow.holds Try.pinned (OpenSpec.ofChange Rows.rttBetweenSpec) :=
  OpenClaim.holds_of_wide 11 Try.f11 rfl rfl rfl rfl rfl rfl rfl ⟨rfl, rfl, rfl, rfl, rfl⟩ rfl rfl rfl rfl rfl (by kernel_rfl) Try.func11 (by kernel_rfl)
    (of_decide_eq_true (by kernel_rfl)) (by unfold Func.isWrapper; first | (rw [if_pos (by decide +kernel)]; kernel_rfl) | (rw [if_neg (by decide +kernel)]; exact ⟨rfl, rfl⟩))
    (fun os started H enc _ => lifted os started H enc)

/-- THE STATEMENT -/
theorem proved : Rows.RttBetweenSaid := over
end Go.Proofs.Ytbgbeadhpcikhaa.rttBetween
