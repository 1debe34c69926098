/- For all 16-bit burst, 32-bit rate and slices l of bytes that would go, PacerBounds returns true: in no interval more is sent than a burst plus the greatest rate times its length. No condition. -/
import Derived.Test.YtanebjapcpbdnaaBase
import Derived.Test.YtanebjapcpbdnaaAlivePacer
import Derived.Test.YtanebjapcpbdnaaBound
import Derived.Test.YtanebjapcpbdnaaRowsF
import Derived.Test.YtanebjapcpbdnaaThree
namespace Go.Proofs.Ytanebjapcpbdnaa.pacerBounds
open Go.ChangeShapes Go.WideShapes Go.ChangeAt Go.RowKit Go.Lib
set_option linter.unusedVariables false

def lst (f : Nat → Int) : Nat → List Int
  | 0 => []
  | k + 1 => lst f k ++ [f k]
theorem lst_len (f : Nat → Int) : ∀ k, (lst f k).length = k
  | 0 => rfl
  | k + 1 => by
    show (lst f k ++ [f k]).length = k + 1
    rw [List.length_append, lst_len f k]
    rfl
theorem lst_get (f : Nat → Int) : ∀ k i, i < k → (lst f k)[i]? = some (f i)
  | 0, i, h => by omega
  | k + 1, i, h => by
    show (lst f k ++ [f k])[i]? = _
    by_cases hi : i < k
    · rw [List.getElem?_append_left (by rw [lst_len]; exact hi)]
      exact lst_get f k i hi
    · obtain rfl : i = k := by omega
      rw [List.getElem?_append_right (by rw [lst_len]; exact Nat.le_refl _), lst_len]
      simp
/-- a row of words that is read -/
def RowW (w : World) (v : Value) (f : Nat → Int) (n : Nat) : Prop := ∃ g c, v = .slice (some ⟨g, 0, none⟩) n c ∧ g < w.heap.size ∧ ∀ i, i < n → w.cell? ⟨g, i, none⟩ = some (.int .u64 (f i))
theorem rowW_of {w : World} {B : Nat} {v : Value} {f : Nat → Int} {n : Nat} (hn : 0 < n) (h : w.ownsRow B 22 1 v (lst f n).length ((lst f n).map (.int .u64))) : RowW w v f n := by
  rw [lst_len] at h
  have h2 := h.2
  rcases h2 with ⟨_, h0⟩ | ⟨g, cap, cur, rfl, hb, hh, _⟩
  · omega
  · refine ⟨g, cap, rfl, (Array.getElem?_eq_some_iff.1 hh).1, fun i hi => ?_⟩
    have := h.cells (g := g) rfl i (.int .u64 (f i)) (by rw [List.getElem?_map, lst_get f n i hi]; rfl)
    rwa [addr_add, Nat.zero_add] at this

theorem atEq (x : Rides) {len : Nat} (h : x.May len) (k : Nat) (hk : k < len) : max (x.a1 k) (x.now (k + 1)) = x.now (k + 1) := by
  have h1 := x.a1_eq h k hk
  have h2 : x.now k ≤ x.now (k + 1) := x.now_mono h k 1 (by omega)
  rw [h1]
  split <;> omega

set_option maxHeartbeats 16000000 in
set_option maxRecDepth 100000 in
theorem walkLong (x : Rides) (b off len cap : Nat) (w : World) (h0 : 0 < len) (h60 : len ≤ 60) (hm : x.May len) (hb : b < w.heap.size)
    (hcell : ∀ i, i < len → w.cell? ⟨b, off + i * 4, none⟩ = some (.int .u16 (x.W i)) ∧ w.cell? ⟨b, off + i * 4 + 1, none⟩ = some (.int .u16 (x.S i)) ∧ w.cell? ⟨b, off + i * 4 + 2, none⟩ = some (.bool (x.U i)) ∧ w.cell? ⟨b, off + i * 4 + 3, none⟩ = some (.int .u32 (x.Q i))) :
    Calls Try.prog 6 #[.int .u16 x.b, .int .u32 x.r0, .slice (some ⟨b, off, none⟩) len cap] w fun e w' => e = .returned (.bool true) ∧ Below w.heap.size w w' := by
  obtain ⟨i0, hi', hz, hs, hbb⟩ := info_parts (P := Try.prog) (e := 22) (z := .int .u64 0) (size := 1) (bytes := 8) (by kernel_rfl)
  have HC := Lib.hid hcell
  have HM := Lib.hid hm
  have b0 : 0 ≤ x.b := hm.b.1
  have b1 : x.b ≤ 65535 := hm.b.2
  have r0 : 0 ≤ x.r0 := hm.r.1
  have r1 : x.r0 ≤ 4294967295 := hm.r.2
  have hli : (len : Int) ≤ 60 := by omega
  have HWB := Lib.hid (show W64 x.b from ⟨by omega, by omega⟩)
  clear hcell hm
  go_enter Try.func6, Try.ntmps6
  go_wp2_with fail
  ((with_reducible refine (pcStart x.b 0 x.r0 HWB.out _).mono ?_); rintro e' w1 ⟨rfl, g1⟩)
  have hPw : w.heap.size ≤ w1.heap.size := g1.size
  have B1 := g1.below
  clear g1
  go_wp2_with fail
  ((with_reducible refine (alivePacer _).mono ?_); rintro e' w2 ⟨rfl, g2⟩)
  have rp : RowIs w2 (w1.heap.size) 24 #[.int .u64 (x.tok 0), .int .u64 (x.now 0), .int .u64 (x.rate 0)] := RowIs.gr (RowIs.mk (heap_newS _ _ _ rfl)) g2
  have B2 : Below w.heap.size w w2 := (B1.alloc hPw _).trans (g2.below.mono (by simp; omega))
  clear g2 B1
  go_wp2_with fail
  go_loopw [9, 10, 11, 12, 37] (fun v1 v2 v3 now i wr => ∃ k : Nat, i = .int .i64 (k : Int) ∧ k ≤ len ∧ now = .int .u64 (x.now k) ∧ RowIs wr (w1.heap.size) 24 #[.int .u64 (x.tok k), .int .u64 (x.now k), .int .u64 (x.rate k)] ∧ Rows3 wr (w1.heap.size + 1) v1 v2 v3 (lst (fun j => x.now (j + 1)) k) (lst x.went k) (lst (fun j => x.rate (j + 1)) k) ∧ Below w.heap.size w wr) (fun _ _ _ _ i _ => (len - intOf i).toNat)
  case atStart => exact ⟨0, by first | rfl | simp, by omega, by first | rfl | simp [Rides.now], rp, Rows3.nil _ _, B2⟩
  case round =>
    clear rp B2
    obtain ⟨k, rfl, hk, rfl, rp, hrows, hbel⟩ := hrel
    have HBel := Lib.hid hbel
    have HR3 := Lib.hid hrows
    clear hbel hrows
    by_cases hlt : k < len
    · have hltI : (k : Int) < (len : Int) := by omega
      have n1 := x.now_le HM.out k (by omega)
      have n2 := x.now_le HM.out (k + 1) (by omega)
      have nk0 : 0 ≤ x.now k := n1.1
      have nk1 : x.now k ≤ 4000000 := by omega
      have nw0 : 0 ≤ x.W k := (HM.out.W k hlt).1
      have nw1 : x.W k ≤ 65535 := (HM.out.W k hlt).2
      have ns0 : 0 ≤ x.S k := (HM.out.S k hlt).1
      have ns1 : x.S k ≤ 65535 := (HM.out.S k hlt).2
      have nq0 : 0 ≤ x.Q k := (HM.out.Q k hlt).1
      have nq1 : x.Q k ≤ 4294967295 := (HM.out.Q k hlt).2
      have tk := x.tok_le HM.out k (by omega)
      have rk := x.rate_le HM.out k (by omega)
      have rk2 := x.rate_le HM.out (k + 1) (by omega)
      have HT := Lib.hid (show W64 (x.tok k) from ⟨by omega, by omega⟩)
      have HN := Lib.hid (show W64 (x.now k) from ⟨by omega, by omega⟩)
      have HNN := Lib.hid (show W64 (x.now k + x.W k) from ⟨by omega, by omega⟩)
      have HR := Lib.hid (show W64 (x.rate k) from ⟨by omega, by omega⟩)
      have HRR := Lib.hid (show W64 (x.rate (k + 1)) from ⟨by omega, by omega⟩)
      have HS := Lib.hid (show W64 (x.S k) from ⟨by omega, by omega⟩)
      clear n1 n2 tk rk rk2
      have k0 : wr.cell? ⟨b, off + k * 4, none⟩ = some (.int .u16 (x.W k)) := (by rw [HBel.out.cell hb]; exact (HC.out k hlt).1)
      have k1 : wr.cell? ⟨b, off + k * 4 + 1, none⟩ = some (.int .u16 (x.S k)) := (by rw [HBel.out.cell hb]; exact (HC.out k hlt).2.1)
      have k2 : wr.cell? ⟨b, off + k * 4 + 2, none⟩ = some (.bool (x.U k)) := (by rw [HBel.out.cell hb]; exact (HC.out k hlt).2.2.1)
      have k3 : wr.cell? ⟨b, off + k * 4 + 3, none⟩ = some (.int .u32 (x.Q k)) := (by rw [HBel.out.cell hb]; exact (HC.out k hlt).2.2.2)
      have hb2 : b < wr.heap.size := (by have := HBel.out.size; omega)
      have d0 := rp.cell 0
      have d1 := rp.cell 1
      have d2 := rp.cell 2
      simp at d0 d1 d2
      have lp := rp.lt
      go_upto_if 52 with fail
      go_cut [] from 48 to 97 (fun wx => RowIs wx (w1.heap.size) 24 #[.int .u64 (x.t1 (x.tok k) k), .int .u64 (x.a1 k), .int .u64 (x.rate (k + 1))] ∧ Rows3 wx (w1.heap.size + 1) u9 u10 u11 (lst (fun j => x.now (j + 1)) k) (lst x.went k) (lst (fun j => x.rate (j + 1)) k) ∧ Below w.heap.size w wx)
      case first =>
        cases hU : x.U k
        · rw [hU] at k2
          have e1 : x.t1 (x.tok k) k = x.tok k := if_neg (by rw [hU]; decide)
          have e2 : x.a1 k = x.now k := if_neg (by rw [hU]; decide)
          have e3 : x.rate (k + 1) = x.rate k := if_neg (by rw [hU]; decide)
          have E1 := Lib.hid e1
          have E2 := Lib.hid e2
          have E3 := Lib.hid e3
          clear e1 e2 e3 hU
          go_wp2_with fail
          go_meet
          exact ⟨by rw [E1.out, E2.out, E3.out]; exact rp, HR3.out, HBel.out⟩
        · rw [hU] at k2
          have e1 : x.t1 (x.tok k) k = fillT (x.tok k) (x.now k) (x.rate k) x.b (x.now (k + 1)) := if_pos hU
          have e2 : x.a1 k = max (x.now k) (x.now (k + 1)) := if_pos hU
          have e3 : x.rate (k + 1) = min (x.Q k) 4294967296 := if_pos hU
          have E1 := Lib.hid e1
          have E2 := Lib.hid e2
          have E3 := Lib.hid e3
          clear e1 e2 e3 hU
          go_wp2_with fail
          refine region_tail 9 (by kernel_rfl) (by kernel_rfl) ?_
          simp only [List.take_succ_cons, List.take_zero, List.drop_succ_cons, List.drop_zero]
          repeat still_step
          refine wpStill_nil ?_
          go_wp2_with fail
          ((with_reducible refine (pcSet (x.tok k) (x.now k) (x.rate k) x.b (x.now k + x.W k) (x.Q k) HT.out HN.out HR.out HWB.out HNN.out _).mono ?_); rintro e' w4 ⟨rfl, g4⟩)
          have rp4 := RowIs.gr rp.drew g4
          have HR4 := Lib.hid (HR3.out.gr3 (by exact Gr.trans (Gr.drew (Gr.refl wr)) g4))
          have HB4 := Lib.hid (HBel.out.trans ((Gr.trans (Gr.drew (Gr.refl wr)) g4).below.mono HBel.out.size))
          clear k0 k1 k2 k3 hb2
          clear rp HR3 HBel g4 d0 d1 d2 lp
          go_wp2_with (refine wpList_store_abs rfl 24 _ _ rfl _ _ rfl rfl _ _ rp4 (by kernel_rfl) rfl (by first | kernel_rfl | simp [Value.oneCell'] | rfl) ?_; intro w5 ST; have rp5 := ST.row; have HR5 := Lib.hid (HR4.out.stored ST (Nat.lt_succ_self _)); have HB5 := Lib.hid (ST.below HB4.out hPw); clear ST)
          go_meet
          exact ⟨by rw [E1.out, E2.out, E3.out]; exact rp5, HR5.out, HB5.out⟩
      case rest =>
        obtain ⟨rp', hr', hbl'⟩ := hcut
        clear k0 k1 k2 k3 hb2
        clear rp HR3 HBel d0 d1 d2 lp
        have rp := rp'
        have HR3 := Lib.hid hr'
        have HBel := Lib.hid hbl'
        clear rp' hr' hbl'
        have lp := rp.lt
        have HTK : Hid (∀ w, Calls Try.prog 16 #[.agg #[.int .u64 (x.t1 (x.tok k) k), .int .u64 (x.a1 k), .int .u64 (x.rate (k + 1))], .int .u64 x.b, .int .u64 (x.now k + x.W k), .int .u64 (x.S k)] w fun e' w' => e' = .returned (.tuple #[.agg #[.int .u64 (x.tok (k + 1)), .int .u64 (x.now (k + 1)), .int .u64 (x.rate (k + 1))], .bool (x.ok k)]) ∧ Gr w w') := by
          show ∀ w, _
          intro w
          have h1 : W64 (x.t1 (x.tok k) k) := by
            unfold Rides.t1
            split
            · exact fillT_W HT.out HN.out HR.out HWB.out HNN.out
            · exact HT.out
          have h2 : W64 (x.a1 k) := by
            unfold Rides.a1
            split
            · exact max_W HN.out HNN.out
            · exact HN.out
          have h := pcTake (x.t1 (x.tok k) k) (x.a1 k) (x.rate (k + 1)) x.b (x.now (k + 1)) (x.S k) h1 h2 HRR.out HWB.out HNN.out HS.out w
          rw [atEq x HM.out k hlt] at h
          exact h
        have k0 : wc.cell? ⟨b, off + k * 4, none⟩ = some (.int .u16 (x.W k)) := (by rw [HBel.out.cell hb]; exact (HC.out k hlt).1)
        have k1 : wc.cell? ⟨b, off + k * 4 + 1, none⟩ = some (.int .u16 (x.S k)) := (by rw [HBel.out.cell hb]; exact (HC.out k hlt).2.1)
        have k2 : wc.cell? ⟨b, off + k * 4 + 2, none⟩ = some (.bool (x.U k)) := (by rw [HBel.out.cell hb]; exact (HC.out k hlt).2.2.1)
        have k3 : wc.cell? ⟨b, off + k * 4 + 3, none⟩ = some (.int .u32 (x.Q k)) := (by rw [HBel.out.cell hb]; exact (HC.out k hlt).2.2.2)
        have hb2 : b < wc.heap.size := (by have := HBel.out.size; omega)
        have d0 := rp.cell 0
        have d1 := rp.cell 1
        have d2 := rp.cell 2
        simp at d0 d1 d2
        go_upto_region 13 with fail
        have ws : IntKind.u64.wrap (x.S k) = x.S k := by rw [IntKind.wrap_u64]; omega
        go_cut [14, 15] from 63 to 97 (fun p bb wx => ∃ g14 : Nat, p = .pointer (some ⟨g14, 0, none⟩) ∧ bb = .bool (x.ok k) ∧ RowIs wx g14 24 #[.int .u64 (x.tok (k + 1)), .int .u64 (x.now (k + 1)), .int .u64 (x.rate (k + 1))] ∧ w1.heap.size < g14 ∧ RowIs wx (w1.heap.size) 24 #[.int .u64 (x.t1 (x.tok k) k), .int .u64 (x.a1 k), .int .u64 (x.rate (k + 1))] ∧ Rows3 wx (w1.heap.size + 1) u9 u10 u11 (lst (fun j => x.now (j + 1)) k) (lst x.went k) (lst (fun j => x.rate (j + 1)) k) ∧ Below w.heap.size w wx)
        case first =>
          go_region_held3 (fun W => W.cell? ⟨w1.heap.size, 0, none⟩ = some (.int .u64 (x.t1 (x.tok k) k)) ∧ W.cell? ⟨w1.heap.size, 1, none⟩ = some (.int .u64 (x.a1 k)) ∧ W.cell? ⟨w1.heap.size, 2, none⟩ = some (.int .u64 (x.rate (k + 1))) ∧ W.cell? ⟨b, off + k * 4 + 1, none⟩ = some (.int .u16 (x.S k))) (first | go_simp | go_keep) (((with_reducible refine (HTK.out _).mono ?_); rintro e' w' ⟨rfl, nA, osA, rfl⟩))
          all_goals
            go_wp2_with fail
            go_meet
            exact ⟨_, rfl, rfl, by refine RowIs.mk ?_; repeat (first | (with_reducible exact RowIs.un rp) | (with_reducible refine heap_newS _ _ _ ?_; (first | (simp; done) | (simp; omega))) | with_reducible apply heap_gwS | with_reducible apply heap_drewNS | with_reducible apply heap_drewS | with_reducible apply heap_allocS), by first | exact lp | (simp; omega) | omega, by refine RowIs.mk ?_; repeat (first | (with_reducible exact RowIs.un rp) | (with_reducible refine heap_newS _ _ _ ?_; (first | (simp; done) | (simp; omega))) | with_reducible apply heap_gwS | with_reducible apply heap_drewNS | with_reducible apply heap_drewS | with_reducible apply heap_allocS), HR3.out.gr3 (by repeat (first | exact Gr.refl _ | apply Gr.drewN | apply Gr.drew | apply Gr.gw | apply Gr.alloc)), HBel.out.trans ((show Gr wc _ from by repeat (first | exact Gr.refl _ | apply Gr.drewN | apply Gr.drew | apply Gr.gw | apply Gr.alloc)).below.mono HBel.out.size)⟩
        case rest =>
          clear k0 k1 k2 k3 hb2
          clear d0 d1 d2 lp rp HR3 HBel HTK
          obtain ⟨g14, rfl, rfl, r14, l14, rp, hr', hbl'⟩ := hcut
          have HR3 := Lib.hid hr'
          have HBel := Lib.hid hbl'
          clear hr' hbl'
          have f0 := r14.cell 0
          have f1 := r14.cell 1
          have f2 := r14.cell 2
          simp at f0 f1 f2
          have l15 := r14.lt
          go_upto_if 77 with (refine wpList_store_abs rfl 24 _ _ rfl _ _ rfl rfl _ _ rp (by kernel_rfl) rfl (by first | kernel_rfl | simp [Value.oneCell'] | rfl) ?_; intro w5 ST; have rpn := ST.row; have HRn := Lib.hid (HR3.out.stored ST (Nat.lt_succ_self _)); have HBn := Lib.hid (ST.below HBel.out hPw); clear ST rp HR3 HBel f0 f1 f2 r14 l15; have rp := rpn; have HR3 := HRn; have HBel := HBn; clear rpn HRn HBn; have k1 : w5.cell? ⟨b, off + k * 4 + 1, none⟩ = some (.int .u16 (x.S k)) := (by rw [HBel.out.cell hb]; exact (HC.out k hlt).2.1); have hb2 : b < w5.heap.size := (by have := HBel.out.size; omega))
          go_cut [15, 16] from 77 to 97 (fun bb n wx => n = .int .u64 (x.went k) ∧ RowIs wx (w1.heap.size) 24 #[.int .u64 (x.tok (k + 1)), .int .u64 (x.now (k + 1)), .int .u64 (x.rate (k + 1))] ∧ Rows3 wx (w1.heap.size + 1) u9 u10 u11 (lst (fun j => x.now (j + 1)) k) (lst x.went k) (lst (fun j => x.rate (j + 1)) k) ∧ Below w.heap.size w wx)
          case first =>
            cases hO : x.ok k
            · have E := Lib.hid (show x.went k = 0 by unfold Rides.went; rw [hO]; rfl)
              clear hO
              go_wp2_with fail
              go_meet
              exact ⟨by rw [E.out], rp, HR3.out, HBel.out⟩
            · have E := Lib.hid (show x.went k = x.S k by unfold Rides.went; rw [hO]; rfl)
              clear hO
              go_wp2_with fail
              go_meet
              exact ⟨by rw [E.out], rp, HR3.out, HBel.out⟩
          case rest =>
            clear rp HR3 HBel
            obtain ⟨rfl, rp, hr', hbl'⟩ := hcut
            have HR3 := Lib.hid hr'
            have HBel := Lib.hid hbl'
            clear hr' hbl'
            go_upto_region 18 with fail
            have rpX := rp.drew
            have RX := HR3.out.gr3 (Gr.drew (Gr.refl _))
            have HBX := HBel.out.trans ((Gr.drew (Gr.refl _)).below.mono HBel.out.size)
            refine wp_region_held_drew (S := fun W => RowIs W (w1.heap.size) 24 #[.int .u64 (x.tok (k + 1)), .int .u64 (x.now (k + 1)), .int .u64 (x.rate (k + 1))]) (by kernel_rfl) rpX (fun hH => ?_)
            clear hH rp HR3 HBel
            generalize World.drew _ = X at *
            refine wpAnyH_take (i := 0) (oi := _) (v := u9) rfl (by kernel_rfl) (by kernel_rfl) (by kernel_rfl) (fun _ _ _ h => h) (Or.inl ⟨by rfl, fun W hS => by go_simp⟩) rpX ?_
            simp [Act.put]
            refine wpAnyH_take (i := 1) (oi := _) (v := (.int .u64 (x.now k + x.W k))) rfl (by kernel_rfl) (by kernel_rfl) (by kernel_rfl) (fun _ _ _ h => h) (Or.inl ⟨by rfl, fun W hS => by go_simp⟩) rpX ?_
            simp [Act.put]
            refine wpAnyH_take (i := 4) (oi := _) (v := u10) rfl (by kernel_rfl) (by kernel_rfl) (by kernel_rfl) (fun _ _ _ h => h) (Or.inl ⟨by rfl, fun W hS => by go_simp⟩) rpX ?_
            simp [Act.put]
            refine wpAnyH_take (i := 5) (oi := _) (v := (.int .u64 (x.went k))) rfl (by kernel_rfl) (by kernel_rfl) (by kernel_rfl) (fun _ _ _ h => h) (Or.inl ⟨by rfl, fun W hS => by go_simp⟩) rpX ?_
            simp [Act.put]
            refine wpAnyH_take (i := 8) (oi := _) (v := u11) rfl (by kernel_rfl) (by kernel_rfl) (by kernel_rfl) (fun _ _ _ h => h) (Or.inl ⟨by rfl, fun W hS => by go_simp⟩) rpX ?_
            simp [Act.put]
            refine wpAnyH_take (i := 9) (oi := _) (v := (.pointer (some ⟨w1.heap.size, 2, none⟩))) rfl (by kernel_rfl) (by kernel_rfl) (by kernel_rfl) (fun _ _ _ h => h) (Or.inl ⟨by rfl, fun W hS => by go_simp⟩) rpX ?_
            simp [Act.put]
            refine wpAnyH_take (i := 10) (oi := _) (v := (.int .u64 (x.rate (k + 1)))) rfl (by kernel_rfl) (by kernel_rfl) (by kernel_rfl) (fun _ _ _ h => h) (Or.inl ⟨by rfl, fun W hS => by (have c2 := RowIs.cell hS 2; simp at c2; clear hS; go_simp)⟩) rpX ?_
            simp [Act.put]
            refine wpAnyH_ready (rs := [2, 6, 11]) (by kernel_rfl) (by simp) ?_
            refine AllReadyH.cons (o := _) rfl (fun K hK => ?_) (AllReadyH.cons (o := _) rfl (fun K hK => ?_) (AllReadyH.cons (o := _) rfl (fun K hK => ?_) AllReadyH.nil))
            · go_simp
              obtain ⟨X1, hX⟩ : ∃ X', X' = X.alloc (.cells #[.int .u64 (x.now k + x.W k)] 22 (0, 0)) := ⟨_, rfl⟩
              rw [← hX]
              have rp1 : RowIs X1 (w1.heap.size) 24 #[.int .u64 (x.tok (k + 1)), .int .u64 (x.now (k + 1)), .int .u64 (x.rate (k + 1))] := by rw [hX]; exact RowIs.gr rpX (Gr.alloc (Gr.refl _) _)
              have R1 := hX ▸ Rows3.alloc RX (.cells #[.int .u64 (x.now k + x.W k)] 22 (0, 0))
              have N1 := hX ▸ New1.make RX (x.now k + x.W k) 22
              have HB1 : Below w.heap.size w X1 := by rw [hX]; exact HBX.trans ((Gr.alloc (Gr.refl X) _).below.mono HBX.size)
              refine hK.out _ _ rp1 (fun hH => ?_)
              clear hK K hH hX
              refine wpAnyH_ready (rs := [3, 6, 11]) (by kernel_rfl) (by simp) ?_
              refine AllReadyH.cons (o := _) rfl (fun K hK => ?_) (AllReadyH.cons (o := _) rfl (fun K hK => ?_) (AllReadyH.cons (o := _) rfl (fun K hK => ?_) AllReadyH.nil))
              · rw [if_pos (by rfl)]
                refine wp_append_at (.tmp 84) (.tmp 86) 36 rfl (w1.heap.size + 1) 22 i0 (.int .u64 0) 8 Try.underlying36 hi' hz hs hbb rfl u9 _ _ rfl R1.o1 (X.heap.size) (.int .u64 (x.now k + x.W k)) rfl N1.c rfl (by rw [lst_len]; unfold maxLen; omega) (by rw [lst_len]; omega) rp1.lt ?_
                intro v2 X2 ho hg hat
                simp [Act.put]
                have bg : Below (w1.heap.size + 1) X1 X2 := below_grown3 (Below.refl _ _) hg rp1.lt (fun g e => (own_lt3 R1.o1 e).1)
                have rp2 := RowIs.below rp1 (Nat.lt_succ_self _) bg
                have HB2 := HB1.trans (bg.mono (Nat.le_succ_of_le hPw))
                have R2 := R1.app1 ho hg hat
                refine hK.out _ _ rp2 (fun hH => ?_)
                clear hK K hH ho hg hat bg
                refine wpAnyH_ready (rs := [6, 11]) (by kernel_rfl) (by simp) ?_
                refine AllReadyH.cons (o := _) rfl (fun K hK => ?_) (AllReadyH.cons (o := _) rfl (fun K hK => ?_) AllReadyH.nil)
                · go_simp
                  obtain ⟨X3, hX⟩ : ∃ X', X' = X2.alloc (.cells #[.int .u64 (x.went k)] 22 (0, 0)) := ⟨_, rfl⟩
                  rw [← hX]
                  have rp3 : RowIs X3 (w1.heap.size) 24 #[.int .u64 (x.tok (k + 1)), .int .u64 (x.now (k + 1)), .int .u64 (x.rate (k + 1))] := by rw [hX]; exact RowIs.gr rp2 (Gr.alloc (Gr.refl _) _)
                  have R3 := hX ▸ Rows3.alloc R2 (.cells #[.int .u64 (x.went k)] 22 (0, 0))
                  have N3 := hX ▸ New1.make R2 (x.went k) 22
                  have HB3 : Below w.heap.size w X3 := by rw [hX]; exact HB2.trans ((Gr.alloc (Gr.refl X2) _).below.mono HB2.size)
                  refine hK.out _ _ rp3 (fun hH => ?_)
                  clear hK K hH hX
                  refine wpAnyH_ready (rs := [7, 11]) (by kernel_rfl) (by simp) ?_
                  refine AllReadyH.cons (o := _) rfl (fun K hK => ?_) (AllReadyH.cons (o := _) rfl (fun K hK => ?_) AllReadyH.nil)
                  · rw [if_pos (by rfl)]
                    refine wp_append_at (.tmp 88) (.tmp 90) 36 rfl (w1.heap.size + 1) 22 i0 (.int .u64 0) 8 Try.underlying36 hi' hz hs hbb rfl u10 _ _ rfl R3.o2 (X2.heap.size) (.int .u64 (x.went k)) rfl N3.c rfl (by rw [lst_len]; unfold maxLen; omega) (by rw [lst_len]; omega) rp3.lt ?_
                    intro v4 X4 ho hg hat
                    simp [Act.put]
                    have bg : Below (w1.heap.size + 1) X3 X4 := below_grown3 (Below.refl _ _) hg rp3.lt (fun g e => (own_lt3 R3.o2 e).1)
                    have rp4 := RowIs.below rp3 (Nat.lt_succ_self _) bg
                    have HB4 := HB3.trans (bg.mono (Nat.le_succ_of_le hPw))
                    have R4 := R3.app2 ho hg hat
                    refine hK.out _ _ rp4 (fun hH => ?_)
                    clear hK K hH ho hg hat bg
                    refine wpAnyH_ready (rs := [11]) (by kernel_rfl) (by simp) ?_
                    refine AllReadyH.cons (o := _) rfl (fun K hK => ?_) AllReadyH.nil
                    · go_simp
                      obtain ⟨X5, hX⟩ : ∃ X', X' = X4.alloc (.cells #[.int .u64 (x.rate (k + 1))] 22 (0, 0)) := ⟨_, rfl⟩
                      rw [← hX]
                      have rp5 : RowIs X5 (w1.heap.size) 24 #[.int .u64 (x.tok (k + 1)), .int .u64 (x.now (k + 1)), .int .u64 (x.rate (k + 1))] := by rw [hX]; exact RowIs.gr rp4 (Gr.alloc (Gr.refl _) _)
                      have R5 := hX ▸ Rows3.alloc R4 (.cells #[.int .u64 (x.rate (k + 1))] 22 (0, 0))
                      have N5 := hX ▸ New1.make R4 (x.rate (k + 1)) 22
                      have HB5 : Below w.heap.size w X5 := by rw [hX]; exact HB4.trans ((Gr.alloc (Gr.refl X4) _).below.mono HB4.size)
                      refine hK.out _ _ rp5 (fun hH => ?_)
                      clear hK K hH hX
                      refine wpAnyH_ready (rs := [12]) (by kernel_rfl) (by simp) ?_
                      refine AllReadyH.cons (o := _) rfl (fun K hK => ?_) AllReadyH.nil
                      · rw [if_pos (by rfl)]
                        refine wp_append_at (.tmp 92) (.tmp 95) 36 rfl (w1.heap.size + 1) 22 i0 (.int .u64 0) 8 Try.underlying36 hi' hz hs hbb rfl u11 _ _ rfl R5.o3 (X4.heap.size) (.int .u64 (x.rate (k + 1))) rfl N5.c rfl (by rw [lst_len]; unfold maxLen; omega) (by rw [lst_len]; omega) rp5.lt ?_
                        intro v6 X6 ho hg hat
                        simp [Act.put]
                        have bg : Below (w1.heap.size + 1) X5 X6 := below_grown3 (Below.refl _ _) hg rp5.lt (fun g e => (own_lt3 R5.o3 e).1)
                        have rp6 := RowIs.below rp5 (Nat.lt_succ_self _) bg
                        have HB6 := HB5.trans (bg.mono (Nat.le_succ_of_le hPw))
                        have R6 := R5.app3 ho hg hat
                        refine hK.out _ _ rp6 (fun hH => ?_)
                        clear hK K hH ho hg hat bg
                        refine wpAnyH_take (i := 13) (oi := _) (v := v2) rfl (by kernel_rfl) (by kernel_rfl) (by kernel_rfl) (fun _ _ _ h => h) (Or.inl ⟨by rfl, fun W hS => by go_simp⟩) rp6 ?_
                        simp [Act.put]
                        refine wpAnyH_take (i := 14) (oi := _) (v := v4) rfl (by kernel_rfl) (by kernel_rfl) (by kernel_rfl) (fun _ _ _ h => h) (Or.inl ⟨by rfl, fun W hS => by go_simp⟩) rp6 ?_
                        simp [Act.put]
                        refine wpAnyH_take (i := 15) (oi := _) (v := v6) rfl (by kernel_rfl) (by kernel_rfl) (by kernel_rfl) (fun _ _ _ h => h) (Or.inl ⟨by rfl, fun W hS => by go_simp⟩) rp6 ?_
                        simp [Act.put]
                        refine wpAnyH_done (by kernel_rfl) ?_ _
                        go_wp2_with fail
                        go_roundw
                        case rel => exact ⟨k + 1, by congr 1, by omega, rfl, rp6, R6, HB6⟩
                        case measure => simp only [intOf]; omega
                  · go_simp
                    obtain ⟨X7, hX⟩ : ∃ X', X' = X3.alloc (.cells #[.int .u64 (x.rate (k + 1))] 22 (0, 0)) := ⟨_, rfl⟩
                    rw [← hX]
                    have rp7 : RowIs X7 (w1.heap.size) 24 #[.int .u64 (x.tok (k + 1)), .int .u64 (x.now (k + 1)), .int .u64 (x.rate (k + 1))] := by rw [hX]; exact RowIs.gr rp3 (Gr.alloc (Gr.refl _) _)
                    have R7 := hX ▸ Rows3.alloc R3 (.cells #[.int .u64 (x.rate (k + 1))] 22 (0, 0))
                    have N7 := hX ▸ New1.make R3 (x.rate (k + 1)) 22
                    have N7_6 := hX ▸ New1.alloc N3 (.cells #[.int .u64 (x.rate (k + 1))] 22 (0, 0))
                    have HB7 : Below w.heap.size w X7 := by rw [hX]; exact HB3.trans ((Gr.alloc (Gr.refl X3) _).below.mono HB3.size)
                    refine hK.out _ _ rp7 (fun hH => ?_)
                    clear hK K hH hX
                    refine wpAnyH_ready (rs := [7]) (by kernel_rfl) (by simp) ?_
                    refine AllReadyH.cons (o := _) rfl (fun K hK => ?_) AllReadyH.nil
                    · rw [if_pos (by rfl)]
                      refine wp_append_at (.tmp 88) (.tmp 90) 36 rfl (w1.heap.size + 1) 22 i0 (.int .u64 0) 8 Try.underlying36 hi' hz hs hbb rfl u10 _ _ rfl R7.o2 (X2.heap.size) (.int .u64 (x.went k)) rfl N7_6.c rfl (by rw [lst_len]; unfold maxLen; omega) (by rw [lst_len]; omega) rp7.lt ?_
                      intro v8 X8 ho hg hat
                      simp [Act.put]
                      have bg : Below (w1.heap.size + 1) X7 X8 := below_grown3 (Below.refl _ _) hg rp7.lt (fun g e => (own_lt3 R7.o2 e).1)
                      have rp8 := RowIs.below rp7 (Nat.lt_succ_self _) bg
                      have HB8 := HB7.trans (bg.mono (Nat.le_succ_of_le hPw))
                      have R8 := R7.app2 ho hg hat
                      have N8_11 := New1.app2 N7 hg hat
                      refine hK.out _ _ rp8 (fun hH => ?_)
                      clear hK K hH ho hg hat bg
                      refine wpAnyH_ready (rs := [12]) (by kernel_rfl) (by simp) ?_
                      refine AllReadyH.cons (o := _) rfl (fun K hK => ?_) AllReadyH.nil
                      · rw [if_pos (by rfl)]
                        refine wp_append_at (.tmp 92) (.tmp 95) 36 rfl (w1.heap.size + 1) 22 i0 (.int .u64 0) 8 Try.underlying36 hi' hz hs hbb rfl u11 _ _ rfl R8.o3 (X3.heap.size) (.int .u64 (x.rate (k + 1))) rfl N8_11.c rfl (by rw [lst_len]; unfold maxLen; omega) (by rw [lst_len]; omega) rp8.lt ?_
                        intro v9 X9 ho hg hat
                        simp [Act.put]
                        have bg : Below (w1.heap.size + 1) X8 X9 := below_grown3 (Below.refl _ _) hg rp8.lt (fun g e => (own_lt3 R8.o3 e).1)
                        have rp9 := RowIs.below rp8 (Nat.lt_succ_self _) bg
                        have HB9 := HB8.trans (bg.mono (Nat.le_succ_of_le hPw))
                        have R9 := R8.app3 ho hg hat
                        refine hK.out _ _ rp9 (fun hH => ?_)
                        clear hK K hH ho hg hat bg
                        refine wpAnyH_take (i := 13) (oi := _) (v := v2) rfl (by kernel_rfl) (by kernel_rfl) (by kernel_rfl) (fun _ _ _ h => h) (Or.inl ⟨by rfl, fun W hS => by go_simp⟩) rp9 ?_
                        simp [Act.put]
                        refine wpAnyH_take (i := 14) (oi := _) (v := v8) rfl (by kernel_rfl) (by kernel_rfl) (by kernel_rfl) (fun _ _ _ h => h) (Or.inl ⟨by rfl, fun W hS => by go_simp⟩) rp9 ?_
                        simp [Act.put]
                        refine wpAnyH_take (i := 15) (oi := _) (v := v9) rfl (by kernel_rfl) (by kernel_rfl) (by kernel_rfl) (fun _ _ _ h => h) (Or.inl ⟨by rfl, fun W hS => by go_simp⟩) rp9 ?_
                        simp [Act.put]
                        refine wpAnyH_done (by kernel_rfl) ?_ _
                        go_wp2_with fail
                        go_roundw
                        case rel => exact ⟨k + 1, by congr 1, by omega, rfl, rp9, R9, HB9⟩
                        case measure => simp only [intOf]; omega
                · go_simp
                  obtain ⟨X10, hX⟩ : ∃ X', X' = X2.alloc (.cells #[.int .u64 (x.rate (k + 1))] 22 (0, 0)) := ⟨_, rfl⟩
                  rw [← hX]
                  have rp10 : RowIs X10 (w1.heap.size) 24 #[.int .u64 (x.tok (k + 1)), .int .u64 (x.now (k + 1)), .int .u64 (x.rate (k + 1))] := by rw [hX]; exact RowIs.gr rp2 (Gr.alloc (Gr.refl _) _)
                  have R10 := hX ▸ Rows3.alloc R2 (.cells #[.int .u64 (x.rate (k + 1))] 22 (0, 0))
                  have N10 := hX ▸ New1.make R2 (x.rate (k + 1)) 22
                  have HB10 : Below w.heap.size w X10 := by rw [hX]; exact HB2.trans ((Gr.alloc (Gr.refl X2) _).below.mono HB2.size)
                  refine hK.out _ _ rp10 (fun hH => ?_)
                  clear hK K hH hX
                  refine wpAnyH_ready (rs := [6]) (by kernel_rfl) (by simp) ?_
                  refine AllReadyH.cons (o := _) rfl (fun K hK => ?_) AllReadyH.nil
                  · go_simp
                    obtain ⟨X11, hX⟩ : ∃ X', X' = X10.alloc (.cells #[.int .u64 (x.went k)] 22 (0, 0)) := ⟨_, rfl⟩
                    rw [← hX]
                    have rp11 : RowIs X11 (w1.heap.size) 24 #[.int .u64 (x.tok (k + 1)), .int .u64 (x.now (k + 1)), .int .u64 (x.rate (k + 1))] := by rw [hX]; exact RowIs.gr rp10 (Gr.alloc (Gr.refl _) _)
                    have R11 := hX ▸ Rows3.alloc R10 (.cells #[.int .u64 (x.went k)] 22 (0, 0))
                    have N11 := hX ▸ New1.make R10 (x.went k) 22
                    have N11_11 := hX ▸ New1.alloc N10 (.cells #[.int .u64 (x.went k)] 22 (0, 0))
                    have HB11 : Below w.heap.size w X11 := by rw [hX]; exact HB10.trans ((Gr.alloc (Gr.refl X10) _).below.mono HB10.size)
                    refine hK.out _ _ rp11 (fun hH => ?_)
                    clear hK K hH hX
                    refine wpAnyH_ready (rs := [7]) (by kernel_rfl) (by simp) ?_
                    refine AllReadyH.cons (o := _) rfl (fun K hK => ?_) AllReadyH.nil
                    · rw [if_pos (by rfl)]
                      refine wp_append_at (.tmp 88) (.tmp 90) 36 rfl (w1.heap.size + 1) 22 i0 (.int .u64 0) 8 Try.underlying36 hi' hz hs hbb rfl u10 _ _ rfl R11.o2 (X10.heap.size) (.int .u64 (x.went k)) rfl N11.c rfl (by rw [lst_len]; unfold maxLen; omega) (by rw [lst_len]; omega) rp11.lt ?_
                      intro v12 X12 ho hg hat
                      simp [Act.put]
                      have bg : Below (w1.heap.size + 1) X11 X12 := below_grown3 (Below.refl _ _) hg rp11.lt (fun g e => (own_lt3 R11.o2 e).1)
                      have rp12 := RowIs.below rp11 (Nat.lt_succ_self _) bg
                      have HB12 := HB11.trans (bg.mono (Nat.le_succ_of_le hPw))
                      have R12 := R11.app2 ho hg hat
                      have N12_11 := New1.app2 N11_11 hg hat
                      refine hK.out _ _ rp12 (fun hH => ?_)
                      clear hK K hH ho hg hat bg
                      refine wpAnyH_ready (rs := [12]) (by kernel_rfl) (by simp) ?_
                      refine AllReadyH.cons (o := _) rfl (fun K hK => ?_) AllReadyH.nil
                      · rw [if_pos (by rfl)]
                        refine wp_append_at (.tmp 92) (.tmp 95) 36 rfl (w1.heap.size + 1) 22 i0 (.int .u64 0) 8 Try.underlying36 hi' hz hs hbb rfl u11 _ _ rfl R12.o3 (X2.heap.size) (.int .u64 (x.rate (k + 1))) rfl N12_11.c rfl (by rw [lst_len]; unfold maxLen; omega) (by rw [lst_len]; omega) rp12.lt ?_
                        intro v13 X13 ho hg hat
                        simp [Act.put]
                        have bg : Below (w1.heap.size + 1) X12 X13 := below_grown3 (Below.refl _ _) hg rp12.lt (fun g e => (own_lt3 R12.o3 e).1)
                        have rp13 := RowIs.below rp12 (Nat.lt_succ_self _) bg
                        have HB13 := HB12.trans (bg.mono (Nat.le_succ_of_le hPw))
                        have R13 := R12.app3 ho hg hat
                        refine hK.out _ _ rp13 (fun hH => ?_)
                        clear hK K hH ho hg hat bg
                        refine wpAnyH_take (i := 13) (oi := _) (v := v2) rfl (by kernel_rfl) (by kernel_rfl) (by kernel_rfl) (fun _ _ _ h => h) (Or.inl ⟨by rfl, fun W hS => by go_simp⟩) rp13 ?_
                        simp [Act.put]
                        refine wpAnyH_take (i := 14) (oi := _) (v := v12) rfl (by kernel_rfl) (by kernel_rfl) (by kernel_rfl) (fun _ _ _ h => h) (Or.inl ⟨by rfl, fun W hS => by go_simp⟩) rp13 ?_
                        simp [Act.put]
                        refine wpAnyH_take (i := 15) (oi := _) (v := v13) rfl (by kernel_rfl) (by kernel_rfl) (by kernel_rfl) (fun _ _ _ h => h) (Or.inl ⟨by rfl, fun W hS => by go_simp⟩) rp13 ?_
                        simp [Act.put]
                        refine wpAnyH_done (by kernel_rfl) ?_ _
                        go_wp2_with fail
                        go_roundw
                        case rel => exact ⟨k + 1, by congr 1, by omega, rfl, rp13, R13, HB13⟩
                        case measure => simp only [intOf]; omega
              · go_simp
                obtain ⟨X14, hX⟩ : ∃ X', X' = X1.alloc (.cells #[.int .u64 (x.went k)] 22 (0, 0)) := ⟨_, rfl⟩
                rw [← hX]
                have rp14 : RowIs X14 (w1.heap.size) 24 #[.int .u64 (x.tok (k + 1)), .int .u64 (x.now (k + 1)), .int .u64 (x.rate (k + 1))] := by rw [hX]; exact RowIs.gr rp1 (Gr.alloc (Gr.refl _) _)
                have R14 := hX ▸ Rows3.alloc R1 (.cells #[.int .u64 (x.went k)] 22 (0, 0))
                have N14 := hX ▸ New1.make R1 (x.went k) 22
                have N14_2 := hX ▸ New1.alloc N1 (.cells #[.int .u64 (x.went k)] 22 (0, 0))
                have HB14 : Below w.heap.size w X14 := by rw [hX]; exact HB1.trans ((Gr.alloc (Gr.refl X1) _).below.mono HB1.size)
                refine hK.out _ _ rp14 (fun hH => ?_)
                clear hK K hH hX
                refine wpAnyH_ready (rs := [3, 11]) (by kernel_rfl) (by simp) ?_
                refine AllReadyH.cons (o := _) rfl (fun K hK => ?_) (AllReadyH.cons (o := _) rfl (fun K hK => ?_) AllReadyH.nil)
                · rw [if_pos (by rfl)]
                  refine wp_append_at (.tmp 84) (.tmp 86) 36 rfl (w1.heap.size + 1) 22 i0 (.int .u64 0) 8 Try.underlying36 hi' hz hs hbb rfl u9 _ _ rfl R14.o1 (X.heap.size) (.int .u64 (x.now k + x.W k)) rfl N14_2.c rfl (by rw [lst_len]; unfold maxLen; omega) (by rw [lst_len]; omega) rp14.lt ?_
                  intro v15 X15 ho hg hat
                  simp [Act.put]
                  have bg : Below (w1.heap.size + 1) X14 X15 := below_grown3 (Below.refl _ _) hg rp14.lt (fun g e => (own_lt3 R14.o1 e).1)
                  have rp15 := RowIs.below rp14 (Nat.lt_succ_self _) bg
                  have HB15 := HB14.trans (bg.mono (Nat.le_succ_of_le hPw))
                  have R15 := R14.app1 ho hg hat
                  have N15_6 := New1.app1 N14 hg hat
                  refine hK.out _ _ rp15 (fun hH => ?_)
                  clear hK K hH ho hg hat bg
                  refine wpAnyH_ready (rs := [7, 11]) (by kernel_rfl) (by simp) ?_
                  refine AllReadyH.cons (o := _) rfl (fun K hK => ?_) (AllReadyH.cons (o := _) rfl (fun K hK => ?_) AllReadyH.nil)
                  · rw [if_pos (by rfl)]
                    refine wp_append_at (.tmp 88) (.tmp 90) 36 rfl (w1.heap.size + 1) 22 i0 (.int .u64 0) 8 Try.underlying36 hi' hz hs hbb rfl u10 _ _ rfl R15.o2 (X1.heap.size) (.int .u64 (x.went k)) rfl N15_6.c rfl (by rw [lst_len]; unfold maxLen; omega) (by rw [lst_len]; omega) rp15.lt ?_
                    intro v16 X16 ho hg hat
                    simp [Act.put]
                    have bg : Below (w1.heap.size + 1) X15 X16 := below_grown3 (Below.refl _ _) hg rp15.lt (fun g e => (own_lt3 R15.o2 e).1)
                    have rp16 := RowIs.below rp15 (Nat.lt_succ_self _) bg
                    have HB16 := HB15.trans (bg.mono (Nat.le_succ_of_le hPw))
                    have R16 := R15.app2 ho hg hat
                    refine hK.out _ _ rp16 (fun hH => ?_)
                    clear hK K hH ho hg hat bg
                    refine wpAnyH_ready (rs := [11]) (by kernel_rfl) (by simp) ?_
                    refine AllReadyH.cons (o := _) rfl (fun K hK => ?_) AllReadyH.nil
                    · go_simp
                      obtain ⟨X17, hX⟩ : ∃ X', X' = X16.alloc (.cells #[.int .u64 (x.rate (k + 1))] 22 (0, 0)) := ⟨_, rfl⟩
                      rw [← hX]
                      have rp17 : RowIs X17 (w1.heap.size) 24 #[.int .u64 (x.tok (k + 1)), .int .u64 (x.now (k + 1)), .int .u64 (x.rate (k + 1))] := by rw [hX]; exact RowIs.gr rp16 (Gr.alloc (Gr.refl _) _)
                      have R17 := hX ▸ Rows3.alloc R16 (.cells #[.int .u64 (x.rate (k + 1))] 22 (0, 0))
                      have N17 := hX ▸ New1.make R16 (x.rate (k + 1)) 22
                      have HB17 : Below w.heap.size w X17 := by rw [hX]; exact HB16.trans ((Gr.alloc (Gr.refl X16) _).below.mono HB16.size)
                      refine hK.out _ _ rp17 (fun hH => ?_)
                      clear hK K hH hX
                      refine wpAnyH_ready (rs := [12]) (by kernel_rfl) (by simp) ?_
                      refine AllReadyH.cons (o := _) rfl (fun K hK => ?_) AllReadyH.nil
                      · rw [if_pos (by rfl)]
                        refine wp_append_at (.tmp 92) (.tmp 95) 36 rfl (w1.heap.size + 1) 22 i0 (.int .u64 0) 8 Try.underlying36 hi' hz hs hbb rfl u11 _ _ rfl R17.o3 (X16.heap.size) (.int .u64 (x.rate (k + 1))) rfl N17.c rfl (by rw [lst_len]; unfold maxLen; omega) (by rw [lst_len]; omega) rp17.lt ?_
                        intro v18 X18 ho hg hat
                        simp [Act.put]
                        have bg : Below (w1.heap.size + 1) X17 X18 := below_grown3 (Below.refl _ _) hg rp17.lt (fun g e => (own_lt3 R17.o3 e).1)
                        have rp18 := RowIs.below rp17 (Nat.lt_succ_self _) bg
                        have HB18 := HB17.trans (bg.mono (Nat.le_succ_of_le hPw))
                        have R18 := R17.app3 ho hg hat
                        refine hK.out _ _ rp18 (fun hH => ?_)
                        clear hK K hH ho hg hat bg
                        refine wpAnyH_take (i := 13) (oi := _) (v := v15) rfl (by kernel_rfl) (by kernel_rfl) (by kernel_rfl) (fun _ _ _ h => h) (Or.inl ⟨by rfl, fun W hS => by go_simp⟩) rp18 ?_
                        simp [Act.put]
                        refine wpAnyH_take (i := 14) (oi := _) (v := v16) rfl (by kernel_rfl) (by kernel_rfl) (by kernel_rfl) (fun _ _ _ h => h) (Or.inl ⟨by rfl, fun W hS => by go_simp⟩) rp18 ?_
                        simp [Act.put]
                        refine wpAnyH_take (i := 15) (oi := _) (v := v18) rfl (by kernel_rfl) (by kernel_rfl) (by kernel_rfl) (fun _ _ _ h => h) (Or.inl ⟨by rfl, fun W hS => by go_simp⟩) rp18 ?_
                        simp [Act.put]
                        refine wpAnyH_done (by kernel_rfl) ?_ _
                        go_wp2_with fail
                        go_roundw
                        case rel => exact ⟨k + 1, by congr 1, by omega, rfl, rp18, R18, HB18⟩
                        case measure => simp only [intOf]; omega
                  · go_simp
                    obtain ⟨X19, hX⟩ : ∃ X', X' = X15.alloc (.cells #[.int .u64 (x.rate (k + 1))] 22 (0, 0)) := ⟨_, rfl⟩
                    rw [← hX]
                    have rp19 : RowIs X19 (w1.heap.size) 24 #[.int .u64 (x.tok (k + 1)), .int .u64 (x.now (k + 1)), .int .u64 (x.rate (k + 1))] := by rw [hX]; exact RowIs.gr rp15 (Gr.alloc (Gr.refl _) _)
                    have R19 := hX ▸ Rows3.alloc R15 (.cells #[.int .u64 (x.rate (k + 1))] 22 (0, 0))
                    have N19 := hX ▸ New1.make R15 (x.rate (k + 1)) 22
                    have N19_6 := hX ▸ New1.alloc N15_6 (.cells #[.int .u64 (x.rate (k + 1))] 22 (0, 0))
                    have HB19 : Below w.heap.size w X19 := by rw [hX]; exact HB15.trans ((Gr.alloc (Gr.refl X15) _).below.mono HB15.size)
                    refine hK.out _ _ rp19 (fun hH => ?_)
                    clear hK K hH hX
                    refine wpAnyH_ready (rs := [7]) (by kernel_rfl) (by simp) ?_
                    refine AllReadyH.cons (o := _) rfl (fun K hK => ?_) AllReadyH.nil
                    · rw [if_pos (by rfl)]
                      refine wp_append_at (.tmp 88) (.tmp 90) 36 rfl (w1.heap.size + 1) 22 i0 (.int .u64 0) 8 Try.underlying36 hi' hz hs hbb rfl u10 _ _ rfl R19.o2 (X1.heap.size) (.int .u64 (x.went k)) rfl N19_6.c rfl (by rw [lst_len]; unfold maxLen; omega) (by rw [lst_len]; omega) rp19.lt ?_
                      intro v20 X20 ho hg hat
                      simp [Act.put]
                      have bg : Below (w1.heap.size + 1) X19 X20 := below_grown3 (Below.refl _ _) hg rp19.lt (fun g e => (own_lt3 R19.o2 e).1)
                      have rp20 := RowIs.below rp19 (Nat.lt_succ_self _) bg
                      have HB20 := HB19.trans (bg.mono (Nat.le_succ_of_le hPw))
                      have R20 := R19.app2 ho hg hat
                      have N20_11 := New1.app2 N19 hg hat
                      refine hK.out _ _ rp20 (fun hH => ?_)
                      clear hK K hH ho hg hat bg
                      refine wpAnyH_ready (rs := [12]) (by kernel_rfl) (by simp) ?_
                      refine AllReadyH.cons (o := _) rfl (fun K hK => ?_) AllReadyH.nil
                      · rw [if_pos (by rfl)]
                        refine wp_append_at (.tmp 92) (.tmp 95) 36 rfl (w1.heap.size + 1) 22 i0 (.int .u64 0) 8 Try.underlying36 hi' hz hs hbb rfl u11 _ _ rfl R20.o3 (X15.heap.size) (.int .u64 (x.rate (k + 1))) rfl N20_11.c rfl (by rw [lst_len]; unfold maxLen; omega) (by rw [lst_len]; omega) rp20.lt ?_
                        intro v21 X21 ho hg hat
                        simp [Act.put]
                        have bg : Below (w1.heap.size + 1) X20 X21 := below_grown3 (Below.refl _ _) hg rp20.lt (fun g e => (own_lt3 R20.o3 e).1)
                        have rp21 := RowIs.below rp20 (Nat.lt_succ_self _) bg
                        have HB21 := HB20.trans (bg.mono (Nat.le_succ_of_le hPw))
                        have R21 := R20.app3 ho hg hat
                        refine hK.out _ _ rp21 (fun hH => ?_)
                        clear hK K hH ho hg hat bg
                        refine wpAnyH_take (i := 13) (oi := _) (v := v15) rfl (by kernel_rfl) (by kernel_rfl) (by kernel_rfl) (fun _ _ _ h => h) (Or.inl ⟨by rfl, fun W hS => by go_simp⟩) rp21 ?_
                        simp [Act.put]
                        refine wpAnyH_take (i := 14) (oi := _) (v := v20) rfl (by kernel_rfl) (by kernel_rfl) (by kernel_rfl) (fun _ _ _ h => h) (Or.inl ⟨by rfl, fun W hS => by go_simp⟩) rp21 ?_
                        simp [Act.put]
                        refine wpAnyH_take (i := 15) (oi := _) (v := v21) rfl (by kernel_rfl) (by kernel_rfl) (by kernel_rfl) (fun _ _ _ h => h) (Or.inl ⟨by rfl, fun W hS => by go_simp⟩) rp21 ?_
                        simp [Act.put]
                        refine wpAnyH_done (by kernel_rfl) ?_ _
                        go_wp2_with fail
                        go_roundw
                        case rel => exact ⟨k + 1, by congr 1, by omega, rfl, rp21, R21, HB21⟩
                        case measure => simp only [intOf]; omega
                · go_simp
                  obtain ⟨X22, hX⟩ : ∃ X', X' = X14.alloc (.cells #[.int .u64 (x.rate (k + 1))] 22 (0, 0)) := ⟨_, rfl⟩
                  rw [← hX]
                  have rp22 : RowIs X22 (w1.heap.size) 24 #[.int .u64 (x.tok (k + 1)), .int .u64 (x.now (k + 1)), .int .u64 (x.rate (k + 1))] := by rw [hX]; exact RowIs.gr rp14 (Gr.alloc (Gr.refl _) _)
                  have R22 := hX ▸ Rows3.alloc R14 (.cells #[.int .u64 (x.rate (k + 1))] 22 (0, 0))
                  have N22 := hX ▸ New1.make R14 (x.rate (k + 1)) 22
                  have N22_2 := hX ▸ New1.alloc N14_2 (.cells #[.int .u64 (x.rate (k + 1))] 22 (0, 0))
                  have N22_6 := hX ▸ New1.alloc N14 (.cells #[.int .u64 (x.rate (k + 1))] 22 (0, 0))
                  have HB22 : Below w.heap.size w X22 := by rw [hX]; exact HB14.trans ((Gr.alloc (Gr.refl X14) _).below.mono HB14.size)
                  refine hK.out _ _ rp22 (fun hH => ?_)
                  clear hK K hH hX
                  refine wpAnyH_ready (rs := [3]) (by kernel_rfl) (by simp) ?_
                  refine AllReadyH.cons (o := _) rfl (fun K hK => ?_) AllReadyH.nil
                  · rw [if_pos (by rfl)]
                    refine wp_append_at (.tmp 84) (.tmp 86) 36 rfl (w1.heap.size + 1) 22 i0 (.int .u64 0) 8 Try.underlying36 hi' hz hs hbb rfl u9 _ _ rfl R22.o1 (X.heap.size) (.int .u64 (x.now k + x.W k)) rfl N22_2.c rfl (by rw [lst_len]; unfold maxLen; omega) (by rw [lst_len]; omega) rp22.lt ?_
                    intro v23 X23 ho hg hat
                    simp [Act.put]
                    have bg : Below (w1.heap.size + 1) X22 X23 := below_grown3 (Below.refl _ _) hg rp22.lt (fun g e => (own_lt3 R22.o1 e).1)
                    have rp23 := RowIs.below rp22 (Nat.lt_succ_self _) bg
                    have HB23 := HB22.trans (bg.mono (Nat.le_succ_of_le hPw))
                    have R23 := R22.app1 ho hg hat
                    have N23_6 := New1.app1 N22_6 hg hat
                    have N23_11 := New1.app1 N22 hg hat
                    refine hK.out _ _ rp23 (fun hH => ?_)
                    clear hK K hH ho hg hat bg
                    refine wpAnyH_ready (rs := [7]) (by kernel_rfl) (by simp) ?_
                    refine AllReadyH.cons (o := _) rfl (fun K hK => ?_) AllReadyH.nil
                    · rw [if_pos (by rfl)]
                      refine wp_append_at (.tmp 88) (.tmp 90) 36 rfl (w1.heap.size + 1) 22 i0 (.int .u64 0) 8 Try.underlying36 hi' hz hs hbb rfl u10 _ _ rfl R23.o2 (X1.heap.size) (.int .u64 (x.went k)) rfl N23_6.c rfl (by rw [lst_len]; unfold maxLen; omega) (by rw [lst_len]; omega) rp23.lt ?_
                      intro v24 X24 ho hg hat
                      simp [Act.put]
                      have bg : Below (w1.heap.size + 1) X23 X24 := below_grown3 (Below.refl _ _) hg rp23.lt (fun g e => (own_lt3 R23.o2 e).1)
                      have rp24 := RowIs.below rp23 (Nat.lt_succ_self _) bg
                      have HB24 := HB23.trans (bg.mono (Nat.le_succ_of_le hPw))
                      have R24 := R23.app2 ho hg hat
                      have N24_11 := New1.app2 N23_11 hg hat
                      refine hK.out _ _ rp24 (fun hH => ?_)
                      clear hK K hH ho hg hat bg
                      refine wpAnyH_ready (rs := [12]) (by kernel_rfl) (by simp) ?_
                      refine AllReadyH.cons (o := _) rfl (fun K hK => ?_) AllReadyH.nil
                      · rw [if_pos (by rfl)]
                        refine wp_append_at (.tmp 92) (.tmp 95) 36 rfl (w1.heap.size + 1) 22 i0 (.int .u64 0) 8 Try.underlying36 hi' hz hs hbb rfl u11 _ _ rfl R24.o3 (X14.heap.size) (.int .u64 (x.rate (k + 1))) rfl N24_11.c rfl (by rw [lst_len]; unfold maxLen; omega) (by rw [lst_len]; omega) rp24.lt ?_
                        intro v25 X25 ho hg hat
                        simp [Act.put]
                        have bg : Below (w1.heap.size + 1) X24 X25 := below_grown3 (Below.refl _ _) hg rp24.lt (fun g e => (own_lt3 R24.o3 e).1)
                        have rp25 := RowIs.below rp24 (Nat.lt_succ_self _) bg
                        have HB25 := HB24.trans (bg.mono (Nat.le_succ_of_le hPw))
                        have R25 := R24.app3 ho hg hat
                        refine hK.out _ _ rp25 (fun hH => ?_)
                        clear hK K hH ho hg hat bg
                        refine wpAnyH_take (i := 13) (oi := _) (v := v23) rfl (by kernel_rfl) (by kernel_rfl) (by kernel_rfl) (fun _ _ _ h => h) (Or.inl ⟨by rfl, fun W hS => by go_simp⟩) rp25 ?_
                        simp [Act.put]
                        refine wpAnyH_take (i := 14) (oi := _) (v := v24) rfl (by kernel_rfl) (by kernel_rfl) (by kernel_rfl) (fun _ _ _ h => h) (Or.inl ⟨by rfl, fun W hS => by go_simp⟩) rp25 ?_
                        simp [Act.put]
                        refine wpAnyH_take (i := 15) (oi := _) (v := v25) rfl (by kernel_rfl) (by kernel_rfl) (by kernel_rfl) (fun _ _ _ h => h) (Or.inl ⟨by rfl, fun W hS => by go_simp⟩) rp25 ?_
                        simp [Act.put]
                        refine wpAnyH_done (by kernel_rfl) ?_ _
                        go_wp2_with fail
                        go_roundw
                        case rel => exact ⟨k + 1, by congr 1, by omega, rfl, rp25, R25, HB25⟩
                        case measure => simp only [intOf]; omega
              · go_simp
                obtain ⟨X26, hX⟩ : ∃ X', X' = X1.alloc (.cells #[.int .u64 (x.rate (k + 1))] 22 (0, 0)) := ⟨_, rfl⟩
                rw [← hX]
                have rp26 : RowIs X26 (w1.heap.size) 24 #[.int .u64 (x.tok (k + 1)), .int .u64 (x.now (k + 1)), .int .u64 (x.rate (k + 1))] := by rw [hX]; exact RowIs.gr rp1 (Gr.alloc (Gr.refl _) _)
                have R26 := hX ▸ Rows3.alloc R1 (.cells #[.int .u64 (x.rate (k + 1))] 22 (0, 0))
                have N26 := hX ▸ New1.make R1 (x.rate (k + 1)) 22
                have N26_2 := hX ▸ New1.alloc N1 (.cells #[.int .u64 (x.rate (k + 1))] 22 (0, 0))
                have HB26 : Below w.heap.size w X26 := by rw [hX]; exact HB1.trans ((Gr.alloc (Gr.refl X1) _).below.mono HB1.size)
                refine hK.out _ _ rp26 (fun hH => ?_)
                clear hK K hH hX
                refine wpAnyH_ready (rs := [3, 6]) (by kernel_rfl) (by simp) ?_
                refine AllReadyH.cons (o := _) rfl (fun K hK => ?_) (AllReadyH.cons (o := _) rfl (fun K hK => ?_) AllReadyH.nil)
                · rw [if_pos (by rfl)]
                  refine wp_append_at (.tmp 84) (.tmp 86) 36 rfl (w1.heap.size + 1) 22 i0 (.int .u64 0) 8 Try.underlying36 hi' hz hs hbb rfl u9 _ _ rfl R26.o1 (X.heap.size) (.int .u64 (x.now k + x.W k)) rfl N26_2.c rfl (by rw [lst_len]; unfold maxLen; omega) (by rw [lst_len]; omega) rp26.lt ?_
                  intro v27 X27 ho hg hat
                  simp [Act.put]
                  have bg : Below (w1.heap.size + 1) X26 X27 := below_grown3 (Below.refl _ _) hg rp26.lt (fun g e => (own_lt3 R26.o1 e).1)
                  have rp27 := RowIs.below rp26 (Nat.lt_succ_self _) bg
                  have HB27 := HB26.trans (bg.mono (Nat.le_succ_of_le hPw))
                  have R27 := R26.app1 ho hg hat
                  have N27_11 := New1.app1 N26 hg hat
                  refine hK.out _ _ rp27 (fun hH => ?_)
                  clear hK K hH ho hg hat bg
                  refine wpAnyH_ready (rs := [6]) (by kernel_rfl) (by simp) ?_
                  refine AllReadyH.cons (o := _) rfl (fun K hK => ?_) AllReadyH.nil
                  · go_simp
                    obtain ⟨X28, hX⟩ : ∃ X', X' = X27.alloc (.cells #[.int .u64 (x.went k)] 22 (0, 0)) := ⟨_, rfl⟩
                    rw [← hX]
                    have rp28 : RowIs X28 (w1.heap.size) 24 #[.int .u64 (x.tok (k + 1)), .int .u64 (x.now (k + 1)), .int .u64 (x.rate (k + 1))] := by rw [hX]; exact RowIs.gr rp27 (Gr.alloc (Gr.refl _) _)
                    have R28 := hX ▸ Rows3.alloc R27 (.cells #[.int .u64 (x.went k)] 22 (0, 0))
                    have N28 := hX ▸ New1.make R27 (x.went k) 22
                    have N28_11 := hX ▸ New1.alloc N27_11 (.cells #[.int .u64 (x.went k)] 22 (0, 0))
                    have HB28 : Below w.heap.size w X28 := by rw [hX]; exact HB27.trans ((Gr.alloc (Gr.refl X27) _).below.mono HB27.size)
                    refine hK.out _ _ rp28 (fun hH => ?_)
                    clear hK K hH hX
                    refine wpAnyH_ready (rs := [7]) (by kernel_rfl) (by simp) ?_
                    refine AllReadyH.cons (o := _) rfl (fun K hK => ?_) AllReadyH.nil
                    · rw [if_pos (by rfl)]
                      refine wp_append_at (.tmp 88) (.tmp 90) 36 rfl (w1.heap.size + 1) 22 i0 (.int .u64 0) 8 Try.underlying36 hi' hz hs hbb rfl u10 _ _ rfl R28.o2 (X27.heap.size) (.int .u64 (x.went k)) rfl N28.c rfl (by rw [lst_len]; unfold maxLen; omega) (by rw [lst_len]; omega) rp28.lt ?_
                      intro v29 X29 ho hg hat
                      simp [Act.put]
                      have bg : Below (w1.heap.size + 1) X28 X29 := below_grown3 (Below.refl _ _) hg rp28.lt (fun g e => (own_lt3 R28.o2 e).1)
                      have rp29 := RowIs.below rp28 (Nat.lt_succ_self _) bg
                      have HB29 := HB28.trans (bg.mono (Nat.le_succ_of_le hPw))
                      have R29 := R28.app2 ho hg hat
                      have N29_11 := New1.app2 N28_11 hg hat
                      refine hK.out _ _ rp29 (fun hH => ?_)
                      clear hK K hH ho hg hat bg
                      refine wpAnyH_ready (rs := [12]) (by kernel_rfl) (by simp) ?_
                      refine AllReadyH.cons (o := _) rfl (fun K hK => ?_) AllReadyH.nil
                      · rw [if_pos (by rfl)]
                        refine wp_append_at (.tmp 92) (.tmp 95) 36 rfl (w1.heap.size + 1) 22 i0 (.int .u64 0) 8 Try.underlying36 hi' hz hs hbb rfl u11 _ _ rfl R29.o3 (X1.heap.size) (.int .u64 (x.rate (k + 1))) rfl N29_11.c rfl (by rw [lst_len]; unfold maxLen; omega) (by rw [lst_len]; omega) rp29.lt ?_
                        intro v30 X30 ho hg hat
                        simp [Act.put]
                        have bg : Below (w1.heap.size + 1) X29 X30 := below_grown3 (Below.refl _ _) hg rp29.lt (fun g e => (own_lt3 R29.o3 e).1)
                        have rp30 := RowIs.below rp29 (Nat.lt_succ_self _) bg
                        have HB30 := HB29.trans (bg.mono (Nat.le_succ_of_le hPw))
                        have R30 := R29.app3 ho hg hat
                        refine hK.out _ _ rp30 (fun hH => ?_)
                        clear hK K hH ho hg hat bg
                        refine wpAnyH_take (i := 13) (oi := _) (v := v27) rfl (by kernel_rfl) (by kernel_rfl) (by kernel_rfl) (fun _ _ _ h => h) (Or.inl ⟨by rfl, fun W hS => by go_simp⟩) rp30 ?_
                        simp [Act.put]
                        refine wpAnyH_take (i := 14) (oi := _) (v := v29) rfl (by kernel_rfl) (by kernel_rfl) (by kernel_rfl) (fun _ _ _ h => h) (Or.inl ⟨by rfl, fun W hS => by go_simp⟩) rp30 ?_
                        simp [Act.put]
                        refine wpAnyH_take (i := 15) (oi := _) (v := v30) rfl (by kernel_rfl) (by kernel_rfl) (by kernel_rfl) (fun _ _ _ h => h) (Or.inl ⟨by rfl, fun W hS => by go_simp⟩) rp30 ?_
                        simp [Act.put]
                        refine wpAnyH_done (by kernel_rfl) ?_ _
                        go_wp2_with fail
                        go_roundw
                        case rel => exact ⟨k + 1, by congr 1, by omega, rfl, rp30, R30, HB30⟩
                        case measure => simp only [intOf]; omega
                · go_simp
                  obtain ⟨X31, hX⟩ : ∃ X', X' = X26.alloc (.cells #[.int .u64 (x.went k)] 22 (0, 0)) := ⟨_, rfl⟩
                  rw [← hX]
                  have rp31 : RowIs X31 (w1.heap.size) 24 #[.int .u64 (x.tok (k + 1)), .int .u64 (x.now (k + 1)), .int .u64 (x.rate (k + 1))] := by rw [hX]; exact RowIs.gr rp26 (Gr.alloc (Gr.refl _) _)
                  have R31 := hX ▸ Rows3.alloc R26 (.cells #[.int .u64 (x.went k)] 22 (0, 0))
                  have N31 := hX ▸ New1.make R26 (x.went k) 22
                  have N31_2 := hX ▸ New1.alloc N26_2 (.cells #[.int .u64 (x.went k)] 22 (0, 0))
                  have N31_11 := hX ▸ New1.alloc N26 (.cells #[.int .u64 (x.went k)] 22 (0, 0))
                  have HB31 : Below w.heap.size w X31 := by rw [hX]; exact HB26.trans ((Gr.alloc (Gr.refl X26) _).below.mono HB26.size)
                  refine hK.out _ _ rp31 (fun hH => ?_)
                  clear hK K hH hX
                  refine wpAnyH_ready (rs := [3]) (by kernel_rfl) (by simp) ?_
                  refine AllReadyH.cons (o := _) rfl (fun K hK => ?_) AllReadyH.nil
                  · rw [if_pos (by rfl)]
                    refine wp_append_at (.tmp 84) (.tmp 86) 36 rfl (w1.heap.size + 1) 22 i0 (.int .u64 0) 8 Try.underlying36 hi' hz hs hbb rfl u9 _ _ rfl R31.o1 (X.heap.size) (.int .u64 (x.now k + x.W k)) rfl N31_2.c rfl (by rw [lst_len]; unfold maxLen; omega) (by rw [lst_len]; omega) rp31.lt ?_
                    intro v32 X32 ho hg hat
                    simp [Act.put]
                    have bg : Below (w1.heap.size + 1) X31 X32 := below_grown3 (Below.refl _ _) hg rp31.lt (fun g e => (own_lt3 R31.o1 e).1)
                    have rp32 := RowIs.below rp31 (Nat.lt_succ_self _) bg
                    have HB32 := HB31.trans (bg.mono (Nat.le_succ_of_le hPw))
                    have R32 := R31.app1 ho hg hat
                    have N32_11 := New1.app1 N31_11 hg hat
                    have N32_6 := New1.app1 N31 hg hat
                    refine hK.out _ _ rp32 (fun hH => ?_)
                    clear hK K hH ho hg hat bg
                    refine wpAnyH_ready (rs := [7]) (by kernel_rfl) (by simp) ?_
                    refine AllReadyH.cons (o := _) rfl (fun K hK => ?_) AllReadyH.nil
                    · rw [if_pos (by rfl)]
                      refine wp_append_at (.tmp 88) (.tmp 90) 36 rfl (w1.heap.size + 1) 22 i0 (.int .u64 0) 8 Try.underlying36 hi' hz hs hbb rfl u10 _ _ rfl R32.o2 (X26.heap.size) (.int .u64 (x.went k)) rfl N32_6.c rfl (by rw [lst_len]; unfold maxLen; omega) (by rw [lst_len]; omega) rp32.lt ?_
                      intro v33 X33 ho hg hat
                      simp [Act.put]
                      have bg : Below (w1.heap.size + 1) X32 X33 := below_grown3 (Below.refl _ _) hg rp32.lt (fun g e => (own_lt3 R32.o2 e).1)
                      have rp33 := RowIs.below rp32 (Nat.lt_succ_self _) bg
                      have HB33 := HB32.trans (bg.mono (Nat.le_succ_of_le hPw))
                      have R33 := R32.app2 ho hg hat
                      have N33_11 := New1.app2 N32_11 hg hat
                      refine hK.out _ _ rp33 (fun hH => ?_)
                      clear hK K hH ho hg hat bg
                      refine wpAnyH_ready (rs := [12]) (by kernel_rfl) (by simp) ?_
                      refine AllReadyH.cons (o := _) rfl (fun K hK => ?_) AllReadyH.nil
                      · rw [if_pos (by rfl)]
                        refine wp_append_at (.tmp 92) (.tmp 95) 36 rfl (w1.heap.size + 1) 22 i0 (.int .u64 0) 8 Try.underlying36 hi' hz hs hbb rfl u11 _ _ rfl R33.o3 (X1.heap.size) (.int .u64 (x.rate (k + 1))) rfl N33_11.c rfl (by rw [lst_len]; unfold maxLen; omega) (by rw [lst_len]; omega) rp33.lt ?_
                        intro v34 X34 ho hg hat
                        simp [Act.put]
                        have bg : Below (w1.heap.size + 1) X33 X34 := below_grown3 (Below.refl _ _) hg rp33.lt (fun g e => (own_lt3 R33.o3 e).1)
                        have rp34 := RowIs.below rp33 (Nat.lt_succ_self _) bg
                        have HB34 := HB33.trans (bg.mono (Nat.le_succ_of_le hPw))
                        have R34 := R33.app3 ho hg hat
                        refine hK.out _ _ rp34 (fun hH => ?_)
                        clear hK K hH ho hg hat bg
                        refine wpAnyH_take (i := 13) (oi := _) (v := v32) rfl (by kernel_rfl) (by kernel_rfl) (by kernel_rfl) (fun _ _ _ h => h) (Or.inl ⟨by rfl, fun W hS => by go_simp⟩) rp34 ?_
                        simp [Act.put]
                        refine wpAnyH_take (i := 14) (oi := _) (v := v33) rfl (by kernel_rfl) (by kernel_rfl) (by kernel_rfl) (fun _ _ _ h => h) (Or.inl ⟨by rfl, fun W hS => by go_simp⟩) rp34 ?_
                        simp [Act.put]
                        refine wpAnyH_take (i := 15) (oi := _) (v := v34) rfl (by kernel_rfl) (by kernel_rfl) (by kernel_rfl) (fun _ _ _ h => h) (Or.inl ⟨by rfl, fun W hS => by go_simp⟩) rp34 ?_
                        simp [Act.put]
                        refine wpAnyH_done (by kernel_rfl) ?_ _
                        go_wp2_with fail
                        go_roundw
                        case rel => exact ⟨k + 1, by congr 1, by omega, rfl, rp34, R34, HB34⟩
                        case measure => simp only [intOf]; omega
            · go_simp
              obtain ⟨X35, hX⟩ : ∃ X', X' = X.alloc (.cells #[.int .u64 (x.went k)] 22 (0, 0)) := ⟨_, rfl⟩
              rw [← hX]
              have rp35 : RowIs X35 (w1.heap.size) 24 #[.int .u64 (x.tok (k + 1)), .int .u64 (x.now (k + 1)), .int .u64 (x.rate (k + 1))] := by rw [hX]; exact RowIs.gr rpX (Gr.alloc (Gr.refl _) _)
              have R35 := hX ▸ Rows3.alloc RX (.cells #[.int .u64 (x.went k)] 22 (0, 0))
              have N35 := hX ▸ New1.make RX (x.went k) 22
              have HB35 : Below w.heap.size w X35 := by rw [hX]; exact HBX.trans ((Gr.alloc (Gr.refl X) _).below.mono HBX.size)
              refine hK.out _ _ rp35 (fun hH => ?_)
              clear hK K hH hX
              refine wpAnyH_ready (rs := [2, 11]) (by kernel_rfl) (by simp) ?_
              refine AllReadyH.cons (o := _) rfl (fun K hK => ?_) (AllReadyH.cons (o := _) rfl (fun K hK => ?_) AllReadyH.nil)
              · go_simp
                obtain ⟨X36, hX⟩ : ∃ X', X' = X35.alloc (.cells #[.int .u64 (x.now k + x.W k)] 22 (0, 0)) := ⟨_, rfl⟩
                rw [← hX]
                have rp36 : RowIs X36 (w1.heap.size) 24 #[.int .u64 (x.tok (k + 1)), .int .u64 (x.now (k + 1)), .int .u64 (x.rate (k + 1))] := by rw [hX]; exact RowIs.gr rp35 (Gr.alloc (Gr.refl _) _)
                have R36 := hX ▸ Rows3.alloc R35 (.cells #[.int .u64 (x.now k + x.W k)] 22 (0, 0))
                have N36 := hX ▸ New1.make R35 (x.now k + x.W k) 22
                have N36_6 := hX ▸ New1.alloc N35 (.cells #[.int .u64 (x.now k + x.W k)] 22 (0, 0))
                have HB36 : Below w.heap.size w X36 := by rw [hX]; exact HB35.trans ((Gr.alloc (Gr.refl X35) _).below.mono HB35.size)
                refine hK.out _ _ rp36 (fun hH => ?_)
                clear hK K hH hX
                refine wpAnyH_ready (rs := [3, 11]) (by kernel_rfl) (by simp) ?_
                refine AllReadyH.cons (o := _) rfl (fun K hK => ?_) (AllReadyH.cons (o := _) rfl (fun K hK => ?_) AllReadyH.nil)
                · rw [if_pos (by rfl)]
                  refine wp_append_at (.tmp 84) (.tmp 86) 36 rfl (w1.heap.size + 1) 22 i0 (.int .u64 0) 8 Try.underlying36 hi' hz hs hbb rfl u9 _ _ rfl R36.o1 (X35.heap.size) (.int .u64 (x.now k + x.W k)) rfl N36.c rfl (by rw [lst_len]; unfold maxLen; omega) (by rw [lst_len]; omega) rp36.lt ?_
                  intro v37 X37 ho hg hat
                  simp [Act.put]
                  have bg : Below (w1.heap.size + 1) X36 X37 := below_grown3 (Below.refl _ _) hg rp36.lt (fun g e => (own_lt3 R36.o1 e).1)
                  have rp37 := RowIs.below rp36 (Nat.lt_succ_self _) bg
                  have HB37 := HB36.trans (bg.mono (Nat.le_succ_of_le hPw))
                  have R37 := R36.app1 ho hg hat
                  have N37_6 := New1.app1 N36_6 hg hat
                  refine hK.out _ _ rp37 (fun hH => ?_)
                  clear hK K hH ho hg hat bg
                  refine wpAnyH_ready (rs := [7, 11]) (by kernel_rfl) (by simp) ?_
                  refine AllReadyH.cons (o := _) rfl (fun K hK => ?_) (AllReadyH.cons (o := _) rfl (fun K hK => ?_) AllReadyH.nil)
                  · rw [if_pos (by rfl)]
                    refine wp_append_at (.tmp 88) (.tmp 90) 36 rfl (w1.heap.size + 1) 22 i0 (.int .u64 0) 8 Try.underlying36 hi' hz hs hbb rfl u10 _ _ rfl R37.o2 (X.heap.size) (.int .u64 (x.went k)) rfl N37_6.c rfl (by rw [lst_len]; unfold maxLen; omega) (by rw [lst_len]; omega) rp37.lt ?_
                    intro v38 X38 ho hg hat
                    simp [Act.put]
                    have bg : Below (w1.heap.size + 1) X37 X38 := below_grown3 (Below.refl _ _) hg rp37.lt (fun g e => (own_lt3 R37.o2 e).1)
                    have rp38 := RowIs.below rp37 (Nat.lt_succ_self _) bg
                    have HB38 := HB37.trans (bg.mono (Nat.le_succ_of_le hPw))
                    have R38 := R37.app2 ho hg hat
                    refine hK.out _ _ rp38 (fun hH => ?_)
                    clear hK K hH ho hg hat bg
                    refine wpAnyH_ready (rs := [11]) (by kernel_rfl) (by simp) ?_
                    refine AllReadyH.cons (o := _) rfl (fun K hK => ?_) AllReadyH.nil
                    · go_simp
                      obtain ⟨X39, hX⟩ : ∃ X', X' = X38.alloc (.cells #[.int .u64 (x.rate (k + 1))] 22 (0, 0)) := ⟨_, rfl⟩
                      rw [← hX]
                      have rp39 : RowIs X39 (w1.heap.size) 24 #[.int .u64 (x.tok (k + 1)), .int .u64 (x.now (k + 1)), .int .u64 (x.rate (k + 1))] := by rw [hX]; exact RowIs.gr rp38 (Gr.alloc (Gr.refl _) _)
                      have R39 := hX ▸ Rows3.alloc R38 (.cells #[.int .u64 (x.rate (k + 1))] 22 (0, 0))
                      have N39 := hX ▸ New1.make R38 (x.rate (k + 1)) 22
                      have HB39 : Below w.heap.size w X39 := by rw [hX]; exact HB38.trans ((Gr.alloc (Gr.refl X38) _).below.mono HB38.size)
                      refine hK.out _ _ rp39 (fun hH => ?_)
                      clear hK K hH hX
                      refine wpAnyH_ready (rs := [12]) (by kernel_rfl) (by simp) ?_
                      refine AllReadyH.cons (o := _) rfl (fun K hK => ?_) AllReadyH.nil
                      · rw [if_pos (by rfl)]
                        refine wp_append_at (.tmp 92) (.tmp 95) 36 rfl (w1.heap.size + 1) 22 i0 (.int .u64 0) 8 Try.underlying36 hi' hz hs hbb rfl u11 _ _ rfl R39.o3 (X38.heap.size) (.int .u64 (x.rate (k + 1))) rfl N39.c rfl (by rw [lst_len]; unfold maxLen; omega) (by rw [lst_len]; omega) rp39.lt ?_
                        intro v40 X40 ho hg hat
                        simp [Act.put]
                        have bg : Below (w1.heap.size + 1) X39 X40 := below_grown3 (Below.refl _ _) hg rp39.lt (fun g e => (own_lt3 R39.o3 e).1)
                        have rp40 := RowIs.below rp39 (Nat.lt_succ_self _) bg
                        have HB40 := HB39.trans (bg.mono (Nat.le_succ_of_le hPw))
                        have R40 := R39.app3 ho hg hat
                        refine hK.out _ _ rp40 (fun hH => ?_)
                        clear hK K hH ho hg hat bg
                        refine wpAnyH_take (i := 13) (oi := _) (v := v37) rfl (by kernel_rfl) (by kernel_rfl) (by kernel_rfl) (fun _ _ _ h => h) (Or.inl ⟨by rfl, fun W hS => by go_simp⟩) rp40 ?_
                        simp [Act.put]
                        refine wpAnyH_take (i := 14) (oi := _) (v := v38) rfl (by kernel_rfl) (by kernel_rfl) (by kernel_rfl) (fun _ _ _ h => h) (Or.inl ⟨by rfl, fun W hS => by go_simp⟩) rp40 ?_
                        simp [Act.put]
                        refine wpAnyH_take (i := 15) (oi := _) (v := v40) rfl (by kernel_rfl) (by kernel_rfl) (by kernel_rfl) (fun _ _ _ h => h) (Or.inl ⟨by rfl, fun W hS => by go_simp⟩) rp40 ?_
                        simp [Act.put]
                        refine wpAnyH_done (by kernel_rfl) ?_ _
                        go_wp2_with fail
                        go_roundw
                        case rel => exact ⟨k + 1, by congr 1, by omega, rfl, rp40, R40, HB40⟩
                        case measure => simp only [intOf]; omega
                  · go_simp
                    obtain ⟨X41, hX⟩ : ∃ X', X' = X37.alloc (.cells #[.int .u64 (x.rate (k + 1))] 22 (0, 0)) := ⟨_, rfl⟩
                    rw [← hX]
                    have rp41 : RowIs X41 (w1.heap.size) 24 #[.int .u64 (x.tok (k + 1)), .int .u64 (x.now (k + 1)), .int .u64 (x.rate (k + 1))] := by rw [hX]; exact RowIs.gr rp37 (Gr.alloc (Gr.refl _) _)
                    have R41 := hX ▸ Rows3.alloc R37 (.cells #[.int .u64 (x.rate (k + 1))] 22 (0, 0))
                    have N41 := hX ▸ New1.make R37 (x.rate (k + 1)) 22
                    have N41_6 := hX ▸ New1.alloc N37_6 (.cells #[.int .u64 (x.rate (k + 1))] 22 (0, 0))
                    have HB41 : Below w.heap.size w X41 := by rw [hX]; exact HB37.trans ((Gr.alloc (Gr.refl X37) _).below.mono HB37.size)
                    refine hK.out _ _ rp41 (fun hH => ?_)
                    clear hK K hH hX
                    refine wpAnyH_ready (rs := [7]) (by kernel_rfl) (by simp) ?_
                    refine AllReadyH.cons (o := _) rfl (fun K hK => ?_) AllReadyH.nil
                    · rw [if_pos (by rfl)]
                      refine wp_append_at (.tmp 88) (.tmp 90) 36 rfl (w1.heap.size + 1) 22 i0 (.int .u64 0) 8 Try.underlying36 hi' hz hs hbb rfl u10 _ _ rfl R41.o2 (X.heap.size) (.int .u64 (x.went k)) rfl N41_6.c rfl (by rw [lst_len]; unfold maxLen; omega) (by rw [lst_len]; omega) rp41.lt ?_
                      intro v42 X42 ho hg hat
                      simp [Act.put]
                      have bg : Below (w1.heap.size + 1) X41 X42 := below_grown3 (Below.refl _ _) hg rp41.lt (fun g e => (own_lt3 R41.o2 e).1)
                      have rp42 := RowIs.below rp41 (Nat.lt_succ_self _) bg
                      have HB42 := HB41.trans (bg.mono (Nat.le_succ_of_le hPw))
                      have R42 := R41.app2 ho hg hat
                      have N42_11 := New1.app2 N41 hg hat
                      refine hK.out _ _ rp42 (fun hH => ?_)
                      clear hK K hH ho hg hat bg
                      refine wpAnyH_ready (rs := [12]) (by kernel_rfl) (by simp) ?_
                      refine AllReadyH.cons (o := _) rfl (fun K hK => ?_) AllReadyH.nil
                      · rw [if_pos (by rfl)]
                        refine wp_append_at (.tmp 92) (.tmp 95) 36 rfl (w1.heap.size + 1) 22 i0 (.int .u64 0) 8 Try.underlying36 hi' hz hs hbb rfl u11 _ _ rfl R42.o3 (X37.heap.size) (.int .u64 (x.rate (k + 1))) rfl N42_11.c rfl (by rw [lst_len]; unfold maxLen; omega) (by rw [lst_len]; omega) rp42.lt ?_
                        intro v43 X43 ho hg hat
                        simp [Act.put]
                        have bg : Below (w1.heap.size + 1) X42 X43 := below_grown3 (Below.refl _ _) hg rp42.lt (fun g e => (own_lt3 R42.o3 e).1)
                        have rp43 := RowIs.below rp42 (Nat.lt_succ_self _) bg
                        have HB43 := HB42.trans (bg.mono (Nat.le_succ_of_le hPw))
                        have R43 := R42.app3 ho hg hat
                        refine hK.out _ _ rp43 (fun hH => ?_)
                        clear hK K hH ho hg hat bg
                        refine wpAnyH_take (i := 13) (oi := _) (v := v37) rfl (by kernel_rfl) (by kernel_rfl) (by kernel_rfl) (fun _ _ _ h => h) (Or.inl ⟨by rfl, fun W hS => by go_simp⟩) rp43 ?_
                        simp [Act.put]
                        refine wpAnyH_take (i := 14) (oi := _) (v := v42) rfl (by kernel_rfl) (by kernel_rfl) (by kernel_rfl) (fun _ _ _ h => h) (Or.inl ⟨by rfl, fun W hS => by go_simp⟩) rp43 ?_
                        simp [Act.put]
                        refine wpAnyH_take (i := 15) (oi := _) (v := v43) rfl (by kernel_rfl) (by kernel_rfl) (by kernel_rfl) (fun _ _ _ h => h) (Or.inl ⟨by rfl, fun W hS => by go_simp⟩) rp43 ?_
                        simp [Act.put]
                        refine wpAnyH_done (by kernel_rfl) ?_ _
                        go_wp2_with fail
                        go_roundw
                        case rel => exact ⟨k + 1, by congr 1, by omega, rfl, rp43, R43, HB43⟩
                        case measure => simp only [intOf]; omega
                · go_simp
                  obtain ⟨X44, hX⟩ : ∃ X', X' = X36.alloc (.cells #[.int .u64 (x.rate (k + 1))] 22 (0, 0)) := ⟨_, rfl⟩
                  rw [← hX]
                  have rp44 : RowIs X44 (w1.heap.size) 24 #[.int .u64 (x.tok (k + 1)), .int .u64 (x.now (k + 1)), .int .u64 (x.rate (k + 1))] := by rw [hX]; exact RowIs.gr rp36 (Gr.alloc (Gr.refl _) _)
                  have R44 := hX ▸ Rows3.alloc R36 (.cells #[.int .u64 (x.rate (k + 1))] 22 (0, 0))
                  have N44 := hX ▸ New1.make R36 (x.rate (k + 1)) 22
                  have N44_6 := hX ▸ New1.alloc N36_6 (.cells #[.int .u64 (x.rate (k + 1))] 22 (0, 0))
                  have N44_2 := hX ▸ New1.alloc N36 (.cells #[.int .u64 (x.rate (k + 1))] 22 (0, 0))
                  have HB44 : Below w.heap.size w X44 := by rw [hX]; exact HB36.trans ((Gr.alloc (Gr.refl X36) _).below.mono HB36.size)
                  refine hK.out _ _ rp44 (fun hH => ?_)
                  clear hK K hH hX
                  refine wpAnyH_ready (rs := [3]) (by kernel_rfl) (by simp) ?_
                  refine AllReadyH.cons (o := _) rfl (fun K hK => ?_) AllReadyH.nil
                  · rw [if_pos (by rfl)]
                    refine wp_append_at (.tmp 84) (.tmp 86) 36 rfl (w1.heap.size + 1) 22 i0 (.int .u64 0) 8 Try.underlying36 hi' hz hs hbb rfl u9 _ _ rfl R44.o1 (X35.heap.size) (.int .u64 (x.now k + x.W k)) rfl N44_2.c rfl (by rw [lst_len]; unfold maxLen; omega) (by rw [lst_len]; omega) rp44.lt ?_
                    intro v45 X45 ho hg hat
                    simp [Act.put]
                    have bg : Below (w1.heap.size + 1) X44 X45 := below_grown3 (Below.refl _ _) hg rp44.lt (fun g e => (own_lt3 R44.o1 e).1)
                    have rp45 := RowIs.below rp44 (Nat.lt_succ_self _) bg
                    have HB45 := HB44.trans (bg.mono (Nat.le_succ_of_le hPw))
                    have R45 := R44.app1 ho hg hat
                    have N45_6 := New1.app1 N44_6 hg hat
                    have N45_11 := New1.app1 N44 hg hat
                    refine hK.out _ _ rp45 (fun hH => ?_)
                    clear hK K hH ho hg hat bg
                    refine wpAnyH_ready (rs := [7]) (by kernel_rfl) (by simp) ?_
                    refine AllReadyH.cons (o := _) rfl (fun K hK => ?_) AllReadyH.nil
                    · rw [if_pos (by rfl)]
                      refine wp_append_at (.tmp 88) (.tmp 90) 36 rfl (w1.heap.size + 1) 22 i0 (.int .u64 0) 8 Try.underlying36 hi' hz hs hbb rfl u10 _ _ rfl R45.o2 (X.heap.size) (.int .u64 (x.went k)) rfl N45_6.c rfl (by rw [lst_len]; unfold maxLen; omega) (by rw [lst_len]; omega) rp45.lt ?_
                      intro v46 X46 ho hg hat
                      simp [Act.put]
                      have bg : Below (w1.heap.size + 1) X45 X46 := below_grown3 (Below.refl _ _) hg rp45.lt (fun g e => (own_lt3 R45.o2 e).1)
                      have rp46 := RowIs.below rp45 (Nat.lt_succ_self _) bg
                      have HB46 := HB45.trans (bg.mono (Nat.le_succ_of_le hPw))
                      have R46 := R45.app2 ho hg hat
                      have N46_11 := New1.app2 N45_11 hg hat
                      refine hK.out _ _ rp46 (fun hH => ?_)
                      clear hK K hH ho hg hat bg
                      refine wpAnyH_ready (rs := [12]) (by kernel_rfl) (by simp) ?_
                      refine AllReadyH.cons (o := _) rfl (fun K hK => ?_) AllReadyH.nil
                      · rw [if_pos (by rfl)]
                        refine wp_append_at (.tmp 92) (.tmp 95) 36 rfl (w1.heap.size + 1) 22 i0 (.int .u64 0) 8 Try.underlying36 hi' hz hs hbb rfl u11 _ _ rfl R46.o3 (X36.heap.size) (.int .u64 (x.rate (k + 1))) rfl N46_11.c rfl (by rw [lst_len]; unfold maxLen; omega) (by rw [lst_len]; omega) rp46.lt ?_
                        intro v47 X47 ho hg hat
                        simp [Act.put]
                        have bg : Below (w1.heap.size + 1) X46 X47 := below_grown3 (Below.refl _ _) hg rp46.lt (fun g e => (own_lt3 R46.o3 e).1)
                        have rp47 := RowIs.below rp46 (Nat.lt_succ_self _) bg
                        have HB47 := HB46.trans (bg.mono (Nat.le_succ_of_le hPw))
                        have R47 := R46.app3 ho hg hat
                        refine hK.out _ _ rp47 (fun hH => ?_)
                        clear hK K hH ho hg hat bg
                        refine wpAnyH_take (i := 13) (oi := _) (v := v45) rfl (by kernel_rfl) (by kernel_rfl) (by kernel_rfl) (fun _ _ _ h => h) (Or.inl ⟨by rfl, fun W hS => by go_simp⟩) rp47 ?_
                        simp [Act.put]
                        refine wpAnyH_take (i := 14) (oi := _) (v := v46) rfl (by kernel_rfl) (by kernel_rfl) (by kernel_rfl) (fun _ _ _ h => h) (Or.inl ⟨by rfl, fun W hS => by go_simp⟩) rp47 ?_
                        simp [Act.put]
                        refine wpAnyH_take (i := 15) (oi := _) (v := v47) rfl (by kernel_rfl) (by kernel_rfl) (by kernel_rfl) (fun _ _ _ h => h) (Or.inl ⟨by rfl, fun W hS => by go_simp⟩) rp47 ?_
                        simp [Act.put]
                        refine wpAnyH_done (by kernel_rfl) ?_ _
                        go_wp2_with fail
                        go_roundw
                        case rel => exact ⟨k + 1, by congr 1, by omega, rfl, rp47, R47, HB47⟩
                        case measure => simp only [intOf]; omega
              · go_simp
                obtain ⟨X48, hX⟩ : ∃ X', X' = X35.alloc (.cells #[.int .u64 (x.rate (k + 1))] 22 (0, 0)) := ⟨_, rfl⟩
                rw [← hX]
                have rp48 : RowIs X48 (w1.heap.size) 24 #[.int .u64 (x.tok (k + 1)), .int .u64 (x.now (k + 1)), .int .u64 (x.rate (k + 1))] := by rw [hX]; exact RowIs.gr rp35 (Gr.alloc (Gr.refl _) _)
                have R48 := hX ▸ Rows3.alloc R35 (.cells #[.int .u64 (x.rate (k + 1))] 22 (0, 0))
                have N48 := hX ▸ New1.make R35 (x.rate (k + 1)) 22
                have N48_6 := hX ▸ New1.alloc N35 (.cells #[.int .u64 (x.rate (k + 1))] 22 (0, 0))
                have HB48 : Below w.heap.size w X48 := by rw [hX]; exact HB35.trans ((Gr.alloc (Gr.refl X35) _).below.mono HB35.size)
                refine hK.out _ _ rp48 (fun hH => ?_)
                clear hK K hH hX
                refine wpAnyH_ready (rs := [2]) (by kernel_rfl) (by simp) ?_
                refine AllReadyH.cons (o := _) rfl (fun K hK => ?_) AllReadyH.nil
                · go_simp
                  obtain ⟨X49, hX⟩ : ∃ X', X' = X48.alloc (.cells #[.int .u64 (x.now k + x.W k)] 22 (0, 0)) := ⟨_, rfl⟩
                  rw [← hX]
                  have rp49 : RowIs X49 (w1.heap.size) 24 #[.int .u64 (x.tok (k + 1)), .int .u64 (x.now (k + 1)), .int .u64 (x.rate (k + 1))] := by rw [hX]; exact RowIs.gr rp48 (Gr.alloc (Gr.refl _) _)
                  have R49 := hX ▸ Rows3.alloc R48 (.cells #[.int .u64 (x.now k + x.W k)] 22 (0, 0))
                  have N49 := hX ▸ New1.make R48 (x.now k + x.W k) 22
                  have N49_6 := hX ▸ New1.alloc N48_6 (.cells #[.int .u64 (x.now k + x.W k)] 22 (0, 0))
                  have N49_11 := hX ▸ New1.alloc N48 (.cells #[.int .u64 (x.now k + x.W k)] 22 (0, 0))
                  have HB49 : Below w.heap.size w X49 := by rw [hX]; exact HB48.trans ((Gr.alloc (Gr.refl X48) _).below.mono HB48.size)
                  refine hK.out _ _ rp49 (fun hH => ?_)
                  clear hK K hH hX
                  refine wpAnyH_ready (rs := [3]) (by kernel_rfl) (by simp) ?_
                  refine AllReadyH.cons (o := _) rfl (fun K hK => ?_) AllReadyH.nil
                  · rw [if_pos (by rfl)]
                    refine wp_append_at (.tmp 84) (.tmp 86) 36 rfl (w1.heap.size + 1) 22 i0 (.int .u64 0) 8 Try.underlying36 hi' hz hs hbb rfl u9 _ _ rfl R49.o1 (X48.heap.size) (.int .u64 (x.now k + x.W k)) rfl N49.c rfl (by rw [lst_len]; unfold maxLen; omega) (by rw [lst_len]; omega) rp49.lt ?_
                    intro v50 X50 ho hg hat
                    simp [Act.put]
                    have bg : Below (w1.heap.size + 1) X49 X50 := below_grown3 (Below.refl _ _) hg rp49.lt (fun g e => (own_lt3 R49.o1 e).1)
                    have rp50 := RowIs.below rp49 (Nat.lt_succ_self _) bg
                    have HB50 := HB49.trans (bg.mono (Nat.le_succ_of_le hPw))
                    have R50 := R49.app1 ho hg hat
                    have N50_6 := New1.app1 N49_6 hg hat
                    have N50_11 := New1.app1 N49_11 hg hat
                    refine hK.out _ _ rp50 (fun hH => ?_)
                    clear hK K hH ho hg hat bg
                    refine wpAnyH_ready (rs := [7]) (by kernel_rfl) (by simp) ?_
                    refine AllReadyH.cons (o := _) rfl (fun K hK => ?_) AllReadyH.nil
                    · rw [if_pos (by rfl)]
                      refine wp_append_at (.tmp 88) (.tmp 90) 36 rfl (w1.heap.size + 1) 22 i0 (.int .u64 0) 8 Try.underlying36 hi' hz hs hbb rfl u10 _ _ rfl R50.o2 (X.heap.size) (.int .u64 (x.went k)) rfl N50_6.c rfl (by rw [lst_len]; unfold maxLen; omega) (by rw [lst_len]; omega) rp50.lt ?_
                      intro v51 X51 ho hg hat
                      simp [Act.put]
                      have bg : Below (w1.heap.size + 1) X50 X51 := below_grown3 (Below.refl _ _) hg rp50.lt (fun g e => (own_lt3 R50.o2 e).1)
                      have rp51 := RowIs.below rp50 (Nat.lt_succ_self _) bg
                      have HB51 := HB50.trans (bg.mono (Nat.le_succ_of_le hPw))
                      have R51 := R50.app2 ho hg hat
                      have N51_11 := New1.app2 N50_11 hg hat
                      refine hK.out _ _ rp51 (fun hH => ?_)
                      clear hK K hH ho hg hat bg
                      refine wpAnyH_ready (rs := [12]) (by kernel_rfl) (by simp) ?_
                      refine AllReadyH.cons (o := _) rfl (fun K hK => ?_) AllReadyH.nil
                      · rw [if_pos (by rfl)]
                        refine wp_append_at (.tmp 92) (.tmp 95) 36 rfl (w1.heap.size + 1) 22 i0 (.int .u64 0) 8 Try.underlying36 hi' hz hs hbb rfl u11 _ _ rfl R51.o3 (X35.heap.size) (.int .u64 (x.rate (k + 1))) rfl N51_11.c rfl (by rw [lst_len]; unfold maxLen; omega) (by rw [lst_len]; omega) rp51.lt ?_
                        intro v52 X52 ho hg hat
                        simp [Act.put]
                        have bg : Below (w1.heap.size + 1) X51 X52 := below_grown3 (Below.refl _ _) hg rp51.lt (fun g e => (own_lt3 R51.o3 e).1)
                        have rp52 := RowIs.below rp51 (Nat.lt_succ_self _) bg
                        have HB52 := HB51.trans (bg.mono (Nat.le_succ_of_le hPw))
                        have R52 := R51.app3 ho hg hat
                        refine hK.out _ _ rp52 (fun hH => ?_)
                        clear hK K hH ho hg hat bg
                        refine wpAnyH_take (i := 13) (oi := _) (v := v50) rfl (by kernel_rfl) (by kernel_rfl) (by kernel_rfl) (fun _ _ _ h => h) (Or.inl ⟨by rfl, fun W hS => by go_simp⟩) rp52 ?_
                        simp [Act.put]
                        refine wpAnyH_take (i := 14) (oi := _) (v := v51) rfl (by kernel_rfl) (by kernel_rfl) (by kernel_rfl) (fun _ _ _ h => h) (Or.inl ⟨by rfl, fun W hS => by go_simp⟩) rp52 ?_
                        simp [Act.put]
                        refine wpAnyH_take (i := 15) (oi := _) (v := v52) rfl (by kernel_rfl) (by kernel_rfl) (by kernel_rfl) (fun _ _ _ h => h) (Or.inl ⟨by rfl, fun W hS => by go_simp⟩) rp52 ?_
                        simp [Act.put]
                        refine wpAnyH_done (by kernel_rfl) ?_ _
                        go_wp2_with fail
                        go_roundw
                        case rel => exact ⟨k + 1, by congr 1, by omega, rfl, rp52, R52, HB52⟩
                        case measure => simp only [intOf]; omega
            · go_simp
              obtain ⟨X53, hX⟩ : ∃ X', X' = X.alloc (.cells #[.int .u64 (x.rate (k + 1))] 22 (0, 0)) := ⟨_, rfl⟩
              rw [← hX]
              have rp53 : RowIs X53 (w1.heap.size) 24 #[.int .u64 (x.tok (k + 1)), .int .u64 (x.now (k + 1)), .int .u64 (x.rate (k + 1))] := by rw [hX]; exact RowIs.gr rpX (Gr.alloc (Gr.refl _) _)
              have R53 := hX ▸ Rows3.alloc RX (.cells #[.int .u64 (x.rate (k + 1))] 22 (0, 0))
              have N53 := hX ▸ New1.make RX (x.rate (k + 1)) 22
              have HB53 : Below w.heap.size w X53 := by rw [hX]; exact HBX.trans ((Gr.alloc (Gr.refl X) _).below.mono HBX.size)
              refine hK.out _ _ rp53 (fun hH => ?_)
              clear hK K hH hX
              refine wpAnyH_ready (rs := [2, 6]) (by kernel_rfl) (by simp) ?_
              refine AllReadyH.cons (o := _) rfl (fun K hK => ?_) (AllReadyH.cons (o := _) rfl (fun K hK => ?_) AllReadyH.nil)
              · go_simp
                obtain ⟨X54, hX⟩ : ∃ X', X' = X53.alloc (.cells #[.int .u64 (x.now k + x.W k)] 22 (0, 0)) := ⟨_, rfl⟩
                rw [← hX]
                have rp54 : RowIs X54 (w1.heap.size) 24 #[.int .u64 (x.tok (k + 1)), .int .u64 (x.now (k + 1)), .int .u64 (x.rate (k + 1))] := by rw [hX]; exact RowIs.gr rp53 (Gr.alloc (Gr.refl _) _)
                have R54 := hX ▸ Rows3.alloc R53 (.cells #[.int .u64 (x.now k + x.W k)] 22 (0, 0))
                have N54 := hX ▸ New1.make R53 (x.now k + x.W k) 22
                have N54_11 := hX ▸ New1.alloc N53 (.cells #[.int .u64 (x.now k + x.W k)] 22 (0, 0))
                have HB54 : Below w.heap.size w X54 := by rw [hX]; exact HB53.trans ((Gr.alloc (Gr.refl X53) _).below.mono HB53.size)
                refine hK.out _ _ rp54 (fun hH => ?_)
                clear hK K hH hX
                refine wpAnyH_ready (rs := [3, 6]) (by kernel_rfl) (by simp) ?_
                refine AllReadyH.cons (o := _) rfl (fun K hK => ?_) (AllReadyH.cons (o := _) rfl (fun K hK => ?_) AllReadyH.nil)
                · rw [if_pos (by rfl)]
                  refine wp_append_at (.tmp 84) (.tmp 86) 36 rfl (w1.heap.size + 1) 22 i0 (.int .u64 0) 8 Try.underlying36 hi' hz hs hbb rfl u9 _ _ rfl R54.o1 (X53.heap.size) (.int .u64 (x.now k + x.W k)) rfl N54.c rfl (by rw [lst_len]; unfold maxLen; omega) (by rw [lst_len]; omega) rp54.lt ?_
                  intro v55 X55 ho hg hat
                  simp [Act.put]
                  have bg : Below (w1.heap.size + 1) X54 X55 := below_grown3 (Below.refl _ _) hg rp54.lt (fun g e => (own_lt3 R54.o1 e).1)
                  have rp55 := RowIs.below rp54 (Nat.lt_succ_self _) bg
                  have HB55 := HB54.trans (bg.mono (Nat.le_succ_of_le hPw))
                  have R55 := R54.app1 ho hg hat
                  have N55_11 := New1.app1 N54_11 hg hat
                  refine hK.out _ _ rp55 (fun hH => ?_)
                  clear hK K hH ho hg hat bg
                  refine wpAnyH_ready (rs := [6]) (by kernel_rfl) (by simp) ?_
                  refine AllReadyH.cons (o := _) rfl (fun K hK => ?_) AllReadyH.nil
                  · go_simp
                    obtain ⟨X56, hX⟩ : ∃ X', X' = X55.alloc (.cells #[.int .u64 (x.went k)] 22 (0, 0)) := ⟨_, rfl⟩
                    rw [← hX]
                    have rp56 : RowIs X56 (w1.heap.size) 24 #[.int .u64 (x.tok (k + 1)), .int .u64 (x.now (k + 1)), .int .u64 (x.rate (k + 1))] := by rw [hX]; exact RowIs.gr rp55 (Gr.alloc (Gr.refl _) _)
                    have R56 := hX ▸ Rows3.alloc R55 (.cells #[.int .u64 (x.went k)] 22 (0, 0))
                    have N56 := hX ▸ New1.make R55 (x.went k) 22
                    have N56_11 := hX ▸ New1.alloc N55_11 (.cells #[.int .u64 (x.went k)] 22 (0, 0))
                    have HB56 : Below w.heap.size w X56 := by rw [hX]; exact HB55.trans ((Gr.alloc (Gr.refl X55) _).below.mono HB55.size)
                    refine hK.out _ _ rp56 (fun hH => ?_)
                    clear hK K hH hX
                    refine wpAnyH_ready (rs := [7]) (by kernel_rfl) (by simp) ?_
                    refine AllReadyH.cons (o := _) rfl (fun K hK => ?_) AllReadyH.nil
                    · rw [if_pos (by rfl)]
                      refine wp_append_at (.tmp 88) (.tmp 90) 36 rfl (w1.heap.size + 1) 22 i0 (.int .u64 0) 8 Try.underlying36 hi' hz hs hbb rfl u10 _ _ rfl R56.o2 (X55.heap.size) (.int .u64 (x.went k)) rfl N56.c rfl (by rw [lst_len]; unfold maxLen; omega) (by rw [lst_len]; omega) rp56.lt ?_
                      intro v57 X57 ho hg hat
                      simp [Act.put]
                      have bg : Below (w1.heap.size + 1) X56 X57 := below_grown3 (Below.refl _ _) hg rp56.lt (fun g e => (own_lt3 R56.o2 e).1)
                      have rp57 := RowIs.below rp56 (Nat.lt_succ_self _) bg
                      have HB57 := HB56.trans (bg.mono (Nat.le_succ_of_le hPw))
                      have R57 := R56.app2 ho hg hat
                      have N57_11 := New1.app2 N56_11 hg hat
                      refine hK.out _ _ rp57 (fun hH => ?_)
                      clear hK K hH ho hg hat bg
                      refine wpAnyH_ready (rs := [12]) (by kernel_rfl) (by simp) ?_
                      refine AllReadyH.cons (o := _) rfl (fun K hK => ?_) AllReadyH.nil
                      · rw [if_pos (by rfl)]
                        refine wp_append_at (.tmp 92) (.tmp 95) 36 rfl (w1.heap.size + 1) 22 i0 (.int .u64 0) 8 Try.underlying36 hi' hz hs hbb rfl u11 _ _ rfl R57.o3 (X.heap.size) (.int .u64 (x.rate (k + 1))) rfl N57_11.c rfl (by rw [lst_len]; unfold maxLen; omega) (by rw [lst_len]; omega) rp57.lt ?_
                        intro v58 X58 ho hg hat
                        simp [Act.put]
                        have bg : Below (w1.heap.size + 1) X57 X58 := below_grown3 (Below.refl _ _) hg rp57.lt (fun g e => (own_lt3 R57.o3 e).1)
                        have rp58 := RowIs.below rp57 (Nat.lt_succ_self _) bg
                        have HB58 := HB57.trans (bg.mono (Nat.le_succ_of_le hPw))
                        have R58 := R57.app3 ho hg hat
                        refine hK.out _ _ rp58 (fun hH => ?_)
                        clear hK K hH ho hg hat bg
                        refine wpAnyH_take (i := 13) (oi := _) (v := v55) rfl (by kernel_rfl) (by kernel_rfl) (by kernel_rfl) (fun _ _ _ h => h) (Or.inl ⟨by rfl, fun W hS => by go_simp⟩) rp58 ?_
                        simp [Act.put]
                        refine wpAnyH_take (i := 14) (oi := _) (v := v57) rfl (by kernel_rfl) (by kernel_rfl) (by kernel_rfl) (fun _ _ _ h => h) (Or.inl ⟨by rfl, fun W hS => by go_simp⟩) rp58 ?_
                        simp [Act.put]
                        refine wpAnyH_take (i := 15) (oi := _) (v := v58) rfl (by kernel_rfl) (by kernel_rfl) (by kernel_rfl) (fun _ _ _ h => h) (Or.inl ⟨by rfl, fun W hS => by go_simp⟩) rp58 ?_
                        simp [Act.put]
                        refine wpAnyH_done (by kernel_rfl) ?_ _
                        go_wp2_with fail
                        go_roundw
                        case rel => exact ⟨k + 1, by congr 1, by omega, rfl, rp58, R58, HB58⟩
                        case measure => simp only [intOf]; omega
                · go_simp
                  obtain ⟨X59, hX⟩ : ∃ X', X' = X54.alloc (.cells #[.int .u64 (x.went k)] 22 (0, 0)) := ⟨_, rfl⟩
                  rw [← hX]
                  have rp59 : RowIs X59 (w1.heap.size) 24 #[.int .u64 (x.tok (k + 1)), .int .u64 (x.now (k + 1)), .int .u64 (x.rate (k + 1))] := by rw [hX]; exact RowIs.gr rp54 (Gr.alloc (Gr.refl _) _)
                  have R59 := hX ▸ Rows3.alloc R54 (.cells #[.int .u64 (x.went k)] 22 (0, 0))
                  have N59 := hX ▸ New1.make R54 (x.went k) 22
                  have N59_11 := hX ▸ New1.alloc N54_11 (.cells #[.int .u64 (x.went k)] 22 (0, 0))
                  have N59_2 := hX ▸ New1.alloc N54 (.cells #[.int .u64 (x.went k)] 22 (0, 0))
                  have HB59 : Below w.heap.size w X59 := by rw [hX]; exact HB54.trans ((Gr.alloc (Gr.refl X54) _).below.mono HB54.size)
                  refine hK.out _ _ rp59 (fun hH => ?_)
                  clear hK K hH hX
                  refine wpAnyH_ready (rs := [3]) (by kernel_rfl) (by simp) ?_
                  refine AllReadyH.cons (o := _) rfl (fun K hK => ?_) AllReadyH.nil
                  · rw [if_pos (by rfl)]
                    refine wp_append_at (.tmp 84) (.tmp 86) 36 rfl (w1.heap.size + 1) 22 i0 (.int .u64 0) 8 Try.underlying36 hi' hz hs hbb rfl u9 _ _ rfl R59.o1 (X53.heap.size) (.int .u64 (x.now k + x.W k)) rfl N59_2.c rfl (by rw [lst_len]; unfold maxLen; omega) (by rw [lst_len]; omega) rp59.lt ?_
                    intro v60 X60 ho hg hat
                    simp [Act.put]
                    have bg : Below (w1.heap.size + 1) X59 X60 := below_grown3 (Below.refl _ _) hg rp59.lt (fun g e => (own_lt3 R59.o1 e).1)
                    have rp60 := RowIs.below rp59 (Nat.lt_succ_self _) bg
                    have HB60 := HB59.trans (bg.mono (Nat.le_succ_of_le hPw))
                    have R60 := R59.app1 ho hg hat
                    have N60_11 := New1.app1 N59_11 hg hat
                    have N60_6 := New1.app1 N59 hg hat
                    refine hK.out _ _ rp60 (fun hH => ?_)
                    clear hK K hH ho hg hat bg
                    refine wpAnyH_ready (rs := [7]) (by kernel_rfl) (by simp) ?_
                    refine AllReadyH.cons (o := _) rfl (fun K hK => ?_) AllReadyH.nil
                    · rw [if_pos (by rfl)]
                      refine wp_append_at (.tmp 88) (.tmp 90) 36 rfl (w1.heap.size + 1) 22 i0 (.int .u64 0) 8 Try.underlying36 hi' hz hs hbb rfl u10 _ _ rfl R60.o2 (X54.heap.size) (.int .u64 (x.went k)) rfl N60_6.c rfl (by rw [lst_len]; unfold maxLen; omega) (by rw [lst_len]; omega) rp60.lt ?_
                      intro v61 X61 ho hg hat
                      simp [Act.put]
                      have bg : Below (w1.heap.size + 1) X60 X61 := below_grown3 (Below.refl _ _) hg rp60.lt (fun g e => (own_lt3 R60.o2 e).1)
                      have rp61 := RowIs.below rp60 (Nat.lt_succ_self _) bg
                      have HB61 := HB60.trans (bg.mono (Nat.le_succ_of_le hPw))
                      have R61 := R60.app2 ho hg hat
                      have N61_11 := New1.app2 N60_11 hg hat
                      refine hK.out _ _ rp61 (fun hH => ?_)
                      clear hK K hH ho hg hat bg
                      refine wpAnyH_ready (rs := [12]) (by kernel_rfl) (by simp) ?_
                      refine AllReadyH.cons (o := _) rfl (fun K hK => ?_) AllReadyH.nil
                      · rw [if_pos (by rfl)]
                        refine wp_append_at (.tmp 92) (.tmp 95) 36 rfl (w1.heap.size + 1) 22 i0 (.int .u64 0) 8 Try.underlying36 hi' hz hs hbb rfl u11 _ _ rfl R61.o3 (X.heap.size) (.int .u64 (x.rate (k + 1))) rfl N61_11.c rfl (by rw [lst_len]; unfold maxLen; omega) (by rw [lst_len]; omega) rp61.lt ?_
                        intro v62 X62 ho hg hat
                        simp [Act.put]
                        have bg : Below (w1.heap.size + 1) X61 X62 := below_grown3 (Below.refl _ _) hg rp61.lt (fun g e => (own_lt3 R61.o3 e).1)
                        have rp62 := RowIs.below rp61 (Nat.lt_succ_self _) bg
                        have HB62 := HB61.trans (bg.mono (Nat.le_succ_of_le hPw))
                        have R62 := R61.app3 ho hg hat
                        refine hK.out _ _ rp62 (fun hH => ?_)
                        clear hK K hH ho hg hat bg
                        refine wpAnyH_take (i := 13) (oi := _) (v := v60) rfl (by kernel_rfl) (by kernel_rfl) (by kernel_rfl) (fun _ _ _ h => h) (Or.inl ⟨by rfl, fun W hS => by go_simp⟩) rp62 ?_
                        simp [Act.put]
                        refine wpAnyH_take (i := 14) (oi := _) (v := v61) rfl (by kernel_rfl) (by kernel_rfl) (by kernel_rfl) (fun _ _ _ h => h) (Or.inl ⟨by rfl, fun W hS => by go_simp⟩) rp62 ?_
                        simp [Act.put]
                        refine wpAnyH_take (i := 15) (oi := _) (v := v62) rfl (by kernel_rfl) (by kernel_rfl) (by kernel_rfl) (fun _ _ _ h => h) (Or.inl ⟨by rfl, fun W hS => by go_simp⟩) rp62 ?_
                        simp [Act.put]
                        refine wpAnyH_done (by kernel_rfl) ?_ _
                        go_wp2_with fail
                        go_roundw
                        case rel => exact ⟨k + 1, by congr 1, by omega, rfl, rp62, R62, HB62⟩
                        case measure => simp only [intOf]; omega
              · go_simp
                obtain ⟨X63, hX⟩ : ∃ X', X' = X53.alloc (.cells #[.int .u64 (x.went k)] 22 (0, 0)) := ⟨_, rfl⟩
                rw [← hX]
                have rp63 : RowIs X63 (w1.heap.size) 24 #[.int .u64 (x.tok (k + 1)), .int .u64 (x.now (k + 1)), .int .u64 (x.rate (k + 1))] := by rw [hX]; exact RowIs.gr rp53 (Gr.alloc (Gr.refl _) _)
                have R63 := hX ▸ Rows3.alloc R53 (.cells #[.int .u64 (x.went k)] 22 (0, 0))
                have N63 := hX ▸ New1.make R53 (x.went k) 22
                have N63_11 := hX ▸ New1.alloc N53 (.cells #[.int .u64 (x.went k)] 22 (0, 0))
                have HB63 : Below w.heap.size w X63 := by rw [hX]; exact HB53.trans ((Gr.alloc (Gr.refl X53) _).below.mono HB53.size)
                refine hK.out _ _ rp63 (fun hH => ?_)
                clear hK K hH hX
                refine wpAnyH_ready (rs := [2]) (by kernel_rfl) (by simp) ?_
                refine AllReadyH.cons (o := _) rfl (fun K hK => ?_) AllReadyH.nil
                · go_simp
                  obtain ⟨X64, hX⟩ : ∃ X', X' = X63.alloc (.cells #[.int .u64 (x.now k + x.W k)] 22 (0, 0)) := ⟨_, rfl⟩
                  rw [← hX]
                  have rp64 : RowIs X64 (w1.heap.size) 24 #[.int .u64 (x.tok (k + 1)), .int .u64 (x.now (k + 1)), .int .u64 (x.rate (k + 1))] := by rw [hX]; exact RowIs.gr rp63 (Gr.alloc (Gr.refl _) _)
                  have R64 := hX ▸ Rows3.alloc R63 (.cells #[.int .u64 (x.now k + x.W k)] 22 (0, 0))
                  have N64 := hX ▸ New1.make R63 (x.now k + x.W k) 22
                  have N64_11 := hX ▸ New1.alloc N63_11 (.cells #[.int .u64 (x.now k + x.W k)] 22 (0, 0))
                  have N64_6 := hX ▸ New1.alloc N63 (.cells #[.int .u64 (x.now k + x.W k)] 22 (0, 0))
                  have HB64 : Below w.heap.size w X64 := by rw [hX]; exact HB63.trans ((Gr.alloc (Gr.refl X63) _).below.mono HB63.size)
                  refine hK.out _ _ rp64 (fun hH => ?_)
                  clear hK K hH hX
                  refine wpAnyH_ready (rs := [3]) (by kernel_rfl) (by simp) ?_
                  refine AllReadyH.cons (o := _) rfl (fun K hK => ?_) AllReadyH.nil
                  · rw [if_pos (by rfl)]
                    refine wp_append_at (.tmp 84) (.tmp 86) 36 rfl (w1.heap.size + 1) 22 i0 (.int .u64 0) 8 Try.underlying36 hi' hz hs hbb rfl u9 _ _ rfl R64.o1 (X63.heap.size) (.int .u64 (x.now k + x.W k)) rfl N64.c rfl (by rw [lst_len]; unfold maxLen; omega) (by rw [lst_len]; omega) rp64.lt ?_
                    intro v65 X65 ho hg hat
                    simp [Act.put]
                    have bg : Below (w1.heap.size + 1) X64 X65 := below_grown3 (Below.refl _ _) hg rp64.lt (fun g e => (own_lt3 R64.o1 e).1)
                    have rp65 := RowIs.below rp64 (Nat.lt_succ_self _) bg
                    have HB65 := HB64.trans (bg.mono (Nat.le_succ_of_le hPw))
                    have R65 := R64.app1 ho hg hat
                    have N65_11 := New1.app1 N64_11 hg hat
                    have N65_6 := New1.app1 N64_6 hg hat
                    refine hK.out _ _ rp65 (fun hH => ?_)
                    clear hK K hH ho hg hat bg
                    refine wpAnyH_ready (rs := [7]) (by kernel_rfl) (by simp) ?_
                    refine AllReadyH.cons (o := _) rfl (fun K hK => ?_) AllReadyH.nil
                    · rw [if_pos (by rfl)]
                      refine wp_append_at (.tmp 88) (.tmp 90) 36 rfl (w1.heap.size + 1) 22 i0 (.int .u64 0) 8 Try.underlying36 hi' hz hs hbb rfl u10 _ _ rfl R65.o2 (X53.heap.size) (.int .u64 (x.went k)) rfl N65_6.c rfl (by rw [lst_len]; unfold maxLen; omega) (by rw [lst_len]; omega) rp65.lt ?_
                      intro v66 X66 ho hg hat
                      simp [Act.put]
                      have bg : Below (w1.heap.size + 1) X65 X66 := below_grown3 (Below.refl _ _) hg rp65.lt (fun g e => (own_lt3 R65.o2 e).1)
                      have rp66 := RowIs.below rp65 (Nat.lt_succ_self _) bg
                      have HB66 := HB65.trans (bg.mono (Nat.le_succ_of_le hPw))
                      have R66 := R65.app2 ho hg hat
                      have N66_11 := New1.app2 N65_11 hg hat
                      refine hK.out _ _ rp66 (fun hH => ?_)
                      clear hK K hH ho hg hat bg
                      refine wpAnyH_ready (rs := [12]) (by kernel_rfl) (by simp) ?_
                      refine AllReadyH.cons (o := _) rfl (fun K hK => ?_) AllReadyH.nil
                      · rw [if_pos (by rfl)]
                        refine wp_append_at (.tmp 92) (.tmp 95) 36 rfl (w1.heap.size + 1) 22 i0 (.int .u64 0) 8 Try.underlying36 hi' hz hs hbb rfl u11 _ _ rfl R66.o3 (X.heap.size) (.int .u64 (x.rate (k + 1))) rfl N66_11.c rfl (by rw [lst_len]; unfold maxLen; omega) (by rw [lst_len]; omega) rp66.lt ?_
                        intro v67 X67 ho hg hat
                        simp [Act.put]
                        have bg : Below (w1.heap.size + 1) X66 X67 := below_grown3 (Below.refl _ _) hg rp66.lt (fun g e => (own_lt3 R66.o3 e).1)
                        have rp67 := RowIs.below rp66 (Nat.lt_succ_self _) bg
                        have HB67 := HB66.trans (bg.mono (Nat.le_succ_of_le hPw))
                        have R67 := R66.app3 ho hg hat
                        refine hK.out _ _ rp67 (fun hH => ?_)
                        clear hK K hH ho hg hat bg
                        refine wpAnyH_take (i := 13) (oi := _) (v := v65) rfl (by kernel_rfl) (by kernel_rfl) (by kernel_rfl) (fun _ _ _ h => h) (Or.inl ⟨by rfl, fun W hS => by go_simp⟩) rp67 ?_
                        simp [Act.put]
                        refine wpAnyH_take (i := 14) (oi := _) (v := v66) rfl (by kernel_rfl) (by kernel_rfl) (by kernel_rfl) (fun _ _ _ h => h) (Or.inl ⟨by rfl, fun W hS => by go_simp⟩) rp67 ?_
                        simp [Act.put]
                        refine wpAnyH_take (i := 15) (oi := _) (v := v67) rfl (by kernel_rfl) (by kernel_rfl) (by kernel_rfl) (fun _ _ _ h => h) (Or.inl ⟨by rfl, fun W hS => by go_simp⟩) rp67 ?_
                        simp [Act.put]
                        refine wpAnyH_done (by kernel_rfl) ?_ _
                        go_wp2_with fail
                        go_roundw
                        case rel => exact ⟨k + 1, by congr 1, by omega, rfl, rp67, R67, HB67⟩
                        case measure => simp only [intOf]; omega
    · have hd : decide ((k : Int) < (len : Int)) = false := by rw [decide_eq_false_iff_not]; omega
      obtain rfl : len = k := by omega
      have A1 := rowW_of h0 HR3.out.o1
      have A2 := rowW_of h0 HR3.out.o2
      have A3 := rowW_of h0 HR3.out.o3
      clear rp HR3 HC hlt hk
      obtain ⟨ga, ca, rfl, la, a1⟩ := A1
      obtain ⟨gb, cb, rfl, lb, a2⟩ := A2
      obtain ⟨gc, cc, rfl, lc, a3⟩ := A3
      have HA1 := Lib.hid a1
      have HA2 := Lib.hid a2
      have HA3 := Lib.hid a3
      clear a1 a2 a3
      go_wp2_with fail
      obtain ⟨wz, rfl⟩ : ∃ wz : World, wz = wr := ⟨_, rfl⟩
      go_loopw [100] (fun s wi => ∃ i : Nat, s = .int .i64 (i : Int) ∧ i ≤ len ∧ Gr wz wi) (fun s _ => (len - intOf s).toNat)
      case atStart => exact ⟨0, by first | rfl | simp, by omega, Gr.refl _⟩
      case round =>
        obtain ⟨i, rfl, hi, hG⟩ := hrel
        obtain ⟨wo, rfl⟩ : ∃ wo : World, wo = wr := ⟨_, rfl⟩
        clear hd
        by_cases hlt : i < len
        · have hltI : (i : Int) < (len : Int) := by omega
          go_wp2_with fail
          go_loopw [18, 19, 20] (fun n r s wj => ∃ m : Nat, s = .int .i64 ((i + m : Nat) : Int) ∧ i + m ≤ len ∧ n = .int .u64 (x.sum i m) ∧ r = .int .u64 (x.top i m) ∧ Gr wz wj) (fun _ _ s _ => (len - intOf s).toNat)
          case atStart => exact ⟨0, by first | rfl | simp, by omega, by first | rfl | simp [Rides.sum], by first | rfl | simp [Rides.top], by repeat (first | assumption | exact Gr.refl _ | apply Gr.drewN | apply Gr.drew | apply Gr.gw | apply Gr.alloc)⟩
          case round =>
            obtain ⟨m, hs', hm', rfl, rfl, hG2⟩ := hrel
            obtain ⟨j, hj⟩ : ∃ j, i + m = j := ⟨_, rfl⟩
            rw [hj] at hs' hm'
            subst hs'
            have HJ := Lib.hid hj
            clear hj
            by_cases hlt2 : j < len
            · have hlt2I : (j : Int) < (len : Int) := by omega
              have c1 : wr.cell? ⟨ga, j, none⟩ = some (.int .u64 (x.now (j + 1))) := (hG2.below.cell la).trans (HA1.out j hlt2)
              have c2 : wr.cell? ⟨gb, j, none⟩ = some (.int .u64 (x.went j)) := (hG2.below.cell lb).trans (HA2.out j hlt2)
              have c3 : wr.cell? ⟨gc, j, none⟩ = some (.int .u64 (x.rate (j + 1))) := (hG2.below.cell lc).trans (HA3.out j hlt2)
              have c4 : wr.cell? ⟨ga, i, none⟩ = some (.int .u64 (x.now (i + 1))) := (hG2.below.cell la).trans (HA1.out i hlt)
              have W1 := x.within HM.out h60 i m (by have := HJ.out; omega)
              have s1 := x.sum_le HM.out i m (by have := HJ.out; omega)
              have s2 := x.went_le HM.out j hlt2
              have s3 := x.top_le HM.out i m (by have := HJ.out; omega)
              have s4 := x.rate_le HM.out (j + 1) (by omega)
              have s5 := x.now_le HM.out (j + 1) (by omega)
              have s6 := x.now_le HM.out (i + 1) (by omega)
              have ES : x.sum i (m + 1) = (x.sum i m + x.went j) := by
                show x.sum i m + x.went (i + m) = _
                rw [HJ.out]
              have ET : x.top i (m + 1) = (max (x.top i m) (x.rate (j + 1))) := by
                show max (x.top i m) (x.rate (i + m + 1)) = _
                rw [HJ.out]
              rw [ES, ET, HJ.out] at W1
              have m60 : (m : Int) ≤ 60 := by have := HJ.out; omega
              have HES := Lib.hid ES
              have HET := Lib.hid ET
              have wa : IntKind.u64.wrap (x.sum i m + x.went j) = (x.sum i m + x.went j) := by rw [IntKind.wrap_u64]; omega
              have wb : IntKind.u64.wrap ((x.sum i m + x.went j) * 1000000) = (x.sum i m + x.went j) * 1000000 := by rw [IntKind.wrap_u64]; omega
              have wc : IntKind.u64.wrap (x.b * 1000000) = x.b * 1000000 := by rw [IntKind.wrap_u64]; omega
              have wd : IntKind.u64.wrap (x.now (j + 1) - x.now (i + 1)) = (x.now (j + 1) - x.now (i + 1)) := by rw [IntKind.wrap_u64]; omega
              have hmu : 0 ≤ mulI (max (x.top i m) (x.rate (j + 1))) (x.now (j + 1) - x.now (i + 1)) := by
                unfold mulI
                have : 0 ≤ (max (x.top i m) (x.rate (j + 1))) * (x.now (j + 1) - x.now (i + 1)) := Int.mul_nonneg (by omega) (by omega)
                omega
              have we : IntKind.u64.wrap (x.b * 1000000 + mulI (max (x.top i m) (x.rate (j + 1))) (x.now (j + 1) - x.now (i + 1))) = x.b * 1000000 + mulI (max (x.top i m) (x.rate (j + 1))) (x.now (j + 1) - x.now (i + 1)) := by rw [IntKind.wrap_u64]; omega
              have hdd : decide (x.b * 1000000 + mulI (max (x.top i m) (x.rate (j + 1))) (x.now (j + 1) - x.now (i + 1)) < (x.sum i m + x.went j) * 1000000) = false := decide_eq_false (by omega)
              have HTT := Lib.hid (show W64 (max (x.top i m) (x.rate (j + 1))) from ⟨by omega, by omega⟩)
              have HDD := Lib.hid (show W64 (x.now (j + 1) - x.now (i + 1)) from ⟨by omega, by omega⟩)
              clear W1 s1 s2 s3 s4 s5 s6 ES ET hmu m60
              go_wp2_with fail
              refine region_tail 13 (by kernel_rfl) (by kernel_rfl) ?_
              simp only [List.take_succ_cons, List.take_zero, List.drop_succ_cons, List.drop_zero]
              repeat still_step
              refine wpStill_nil ?_
              go_wp2_with fail
              refine region_tail 16 (by kernel_rfl) (by kernel_rfl) ?_
              simp only [List.take_succ_cons, List.take_zero, List.drop_succ_cons, List.drop_zero]
              repeat still_step
              still_call (turn (rMul (max (x.top i m) (x.rate (j + 1))) (x.now (j + 1) - x.now (i + 1)) HTT.out HDD.out _))
              repeat still_step
              refine wpStill_nil ?_
              go_wp2_with fail
              go_roundw
              case rel => exact ⟨m + 1, by have := HJ.out; congr 1; omega, by have := HJ.out; omega, by rw [HES.out], by rw [HET.out], by repeat (first | assumption | exact Gr.refl _ | apply Gr.drewN | apply Gr.drew | apply Gr.gw | apply Gr.alloc)⟩
              case measure => simp only [intOf]; omega
            · have hd : decide ((j : Int) < (len : Int)) = false := by rw [decide_eq_false_iff_not]; omega
              go_wp2_with fail
              go_roundw
              case rel => exact ⟨i + 1, by congr 1, by omega, by repeat (first | assumption | exact Gr.refl _ | apply Gr.drewN | apply Gr.drew | apply Gr.gw | apply Gr.alloc)⟩
              case measure => simp only [intOf]; omega
        · have hd : decide ((i : Int) < (len : Int)) = false := by rw [decide_eq_false_iff_not]; omega
          go_wp2_with fail
          go_ret
          exact ⟨rfl, HBel.out.trans ((show Gr wz _ from by repeat (first | assumption | exact Gr.refl _ | apply Gr.drewN | apply Gr.drew | apply Gr.gw | apply Gr.alloc)).below.mono HBel.out.size)⟩

set_option maxHeartbeats 4000000 in
set_option maxRecDepth 100000 in
theorem walkShort (a0 a1 : Int) (a : Option Addr) (len cap : Nat) (w : World) (h : len = 0 ∨ 60 < len) (hl9 : len ≤ 9223372036854775807) (w0 : 0 ≤ a0 ∧ a0 ≤ 65535) (w1' : 0 ≤ a1 ∧ a1 ≤ 4294967295) :
    Calls Try.prog 6 #[.int .u16 a0, .int .u32 a1, .slice a len cap] w fun e w' => e = .returned (.bool true) ∧ Below w.heap.size w w' := by
  have b0 : 0 ≤ a0 := w0.1
  have b1 : a0 ≤ 65535 := w0.2
  have r0 : 0 ≤ a1 := w1'.1
  have r1 : a1 ≤ 4294967295 := w1'.2
  have HWB := Lib.hid (show W64 a0 from ⟨by omega, by omega⟩)
  have hl9' : (len : Int) ≤ 9223372036854775807 := by omega
  rcases h with rfl | h
  · go_enter Try.func6, Try.ntmps6
    go_wp2_with fail
    ((with_reducible refine (pcStart a0 0 a1 HWB.out _).mono ?_); rintro e' w' ⟨rfl, n1, os1, rfl⟩)
    go_wp2_with fail
    ((with_reducible refine (alivePacer _).mono ?_); rintro e' w' ⟨rfl, n2, os2, rfl⟩)
    go_wp2_with fail
    refine wp_loop_rounds 1 ?_; rw [rounds_succ]
    go_wp2_with fail
    refine wp_loop_rounds 1 ?_; rw [rounds_succ]
    go_wp2_with fail
    go_ret
    exact ⟨rfl, Gr.below (by repeat (first | assumption | exact Gr.refl _ | apply Gr.drewN | apply Gr.drew | apply Gr.gw | apply Gr.alloc))⟩
  · have e2 : (60 : Int) < (len : Int) := by omega
    go_enter Try.func6, Try.ntmps6
    go_wp2_with fail
    ((with_reducible refine (pcStart a0 0 a1 HWB.out _).mono ?_); rintro e' w' ⟨rfl, n1, os1, rfl⟩)
    go_wp2_with fail
    ((with_reducible refine (alivePacer _).mono ?_); rintro e' w' ⟨rfl, n2, os2, rfl⟩)
    go_wp2_with fail
    ((with_reducible refine (alivePacer _).mono ?_); rintro e' w' ⟨rfl, n3, os3, rfl⟩)
    go_wp2_with fail
    go_ret
    exact ⟨rfl, Gr.below (by repeat (first | assumption | exact Gr.refl _ | apply Gr.drewN | apply Gr.drew | apply Gr.gw | apply Gr.alloc))⟩

theorem pick4 (w : World) (b off len : Nat) (h : ∀ i, i < len → ∃ cs, Fits [some .u16, some .u16, none, some .u32] cs ∧ cs.length = 4 ∧ ∀ j, j < 4 → w.cell? ⟨b, off + (i * 4 + j), none⟩ = cs[j]?) :
    ∃ (W S : Nat → Int) (U : Nat → Bool) (Q : Nat → Int), (∀ i, i < len → w.cell? ⟨b, off + i * 4, none⟩ = some (.int .u16 (W i)) ∧ w.cell? ⟨b, off + i * 4 + 1, none⟩ = some (.int .u16 (S i)) ∧ w.cell? ⟨b, off + i * 4 + 2, none⟩ = some (.bool (U i)) ∧ w.cell? ⟨b, off + i * 4 + 3, none⟩ = some (.int .u32 (Q i))) ∧
      ∀ i, i < len → (0 ≤ W i ∧ W i ≤ 65535) ∧ (0 ≤ S i ∧ S i ≤ 65535) ∧ (0 ≤ Q i ∧ Q i ≤ 4294967295) := by
  have g : ∀ i, ∃ p : Int × Int × Bool × Int, i < len → (w.cell? ⟨b, off + i * 4, none⟩ = some (.int .u16 p.1) ∧ w.cell? ⟨b, off + i * 4 + 1, none⟩ = some (.int .u16 p.2.1) ∧ w.cell? ⟨b, off + i * 4 + 2, none⟩ = some (.bool p.2.2.1) ∧ w.cell? ⟨b, off + i * 4 + 3, none⟩ = some (.int .u32 p.2.2.2)) ∧ (0 ≤ p.1 ∧ p.1 ≤ 65535) ∧ (0 ≤ p.2.1 ∧ p.2.1 ≤ 65535) ∧ (0 ≤ p.2.2.2 ∧ p.2.2.2 ≤ 4294967295) := by
    intro i
    by_cases hi : i < len
    · obtain ⟨cs, hf, hl, hc⟩ := h i hi
      match cs, hf with
      | [c0, c1, c2, c3], ⟨⟨x, e0, h0⟩, ⟨y, e1, h1⟩, ⟨z, e2⟩, ⟨u, e3, h3⟩, _⟩ =>
        subst e0 e1 e2 e3
        exact ⟨(x, y, z, u), fun _ => ⟨⟨hc 0 (by omega), hc 1 (by omega), hc 2 (by omega), hc 3 (by omega)⟩, wfU16 h0, wfU16 h1, wfU32 h3⟩⟩
    · exact ⟨(0, 0, false, 0), fun h => absurd h hi⟩
  obtain ⟨q, hq⟩ := Classical.axiomOfChoice g
  exact ⟨fun i => (q i).1, fun i => (q i).2.1, fun i => (q i).2.2.1, fun i => (q i).2.2.2, fun i hi => (hq i hi).1, fun i hi => (hq i hi).2⟩

theorem walk (a0 a1 : Int) (a2 : Option Addr) (len2 cap2 : Nat) (w : World) (w0 : 0 ≤ a0 ∧ a0 ≤ 65535) (w1 : 0 ≤ a1 ∧ a1 ≤ 4294967295) (w2 : IsRowsF w a2 len2 cap2 4 [some .u16, some .u16, none, some .u32]) :
    Calls Try.prog 6 #[.int .u16 a0, .int .u32 a1, .slice a2 len2 cap2] w fun e w' => e = .returned (.bool true) ∧ Below w.heap.size w w' := by
  rcases w2.plain (by omega) with h0 | ⟨h0, hm, b, off, rfl, hb, hx⟩
  · exact walkShort a0 a1 a2 len2 cap2 w (.inl h0) (by omega) w0 w1
  · unfold maxLen at hm
    by_cases h5 : 60 < len2
    · exact walkShort a0 a1 _ len2 cap2 w (.inr h5) (by omega) w0 w1
    · obtain ⟨W, S, U, Q, hcell, hwz⟩ := pick4 w b off len2 hx
      exact walkLong ⟨a0, a1, W, S, U, Q⟩ b off len2 cap2 w h0 (by omega) ⟨w0, w1, fun k hk => (hwz k hk).1, fun k hk => (hwz k hk).2.1, fun k hk => (hwz k hk).2.2⟩ hb hcell

/-! ### the row's step -/
set_option maxRecDepth 100000 in
theorem lifted (os : Os) (started : os.Started) (H : Type) (enc : TypeId × Value → H) :
    ReturnsInHanded {} Try.checked os 6 .any (Rows.pacerBoundsSpec.pre6 enc Try.prog Try.f6 Rows.pacerBoundsRow.domain false) (Rows.pacerBoundsSpec.post enc Try.prog Try.f6 false true false false) := by
  refine returnsInHanded_of_change (C := Try.checked) own started (by kernel_rfl) Try.func6
    (ChangeSpec.witness6 (enc := enc) (C := Try.checked) false ⟨#[], #[.int .u16 0, .int .u32 0, .slice none 0 0], []⟩ 8 (by kernel_rfl) (by kernel_rfl) (by kernel_rfl) (by kernel_rfl)) ?_
  intro W base args ds gs before hval0 hW hcnd _
  have hval : ∀ (j : Nat) t v, Try.f6.params[j]? = some t → args[j]? = some v → Value.okWide Try.prog W .any base t v := hval0
  have hW' := hW
  obtain ⟨p, q, hA0, hV, rfl, hfz, hnd⟩ := hW
  have hA : DataW.TrodAll enc Try.prog W 0 (fun _ => true) true Try.f6.params.toList args.toList ds p := hA0
  rw [Try.params6] at hA hval
  obtain ⟨v0, vs0, d0, ds0, p0, q0, hargs, rfl, rfl, h0, r0⟩ := trodAll_cons hA
  obtain ⟨v1, vs1, d1, ds1, p1, q1, rfl, rfl, rfl, h1, r1⟩ := trodAll_cons r0
  obtain ⟨v2, vs2, d2, ds2, p2, q2, rfl, rfl, rfl, h2, r2⟩ := trodAll_cons r1
  obtain ⟨rfl, rfl, rfl⟩ := trodAll_nil r2
  obtain rfl : args = #[v0, v1, v2] := by cases args; simp_all
  obtain ⟨rfl, rfl⟩ := trodVars_none hV
  obtain ⟨a0, rfl, rfl, rfl, w0⟩ := open_int Try.underlying32 (hval 0 32 v0 rfl rfl) h0
  obtain ⟨a1, rfl, rfl, rfl, w1⟩ := open_int Try.underlying31 (hval 1 31 v1 rfl rfl) h1
  obtain ⟨a2, len2, cap2, rfl⟩ := okWide_slice Try.underlying34 (hval 2 34 v2 rfl rfl)
  have k2 := h2
  have lt2 : ∀ x ∈ p2, x.block < W.heap.size := by obtain ⟨m, hm⟩ := k2; exact DataW.trod_lt m _ _ _ hm
  have w2 : IsRowsF W a2 len2 cap2 4 [some .u16, some .u16, none, some .u32] := by
    obtain ⟨fuel, hf⟩ := h2
    have h := rows_of_trod [some .u16, some .u16, none, some .u32] Try.underlying34 (by simpa [Value.cells] using hf) (fun m cs y hy => fits_of_trod 8 38 _ m _ _ (by kernel_rfl) hy)
    rwa [show Try.prog.cellsOf 38 = 4 from by kernel_rfl] at h
  clear hA0 hval0
  refine (walk a0 a1 a2 len2 cap2 W (wfU16 w0) (wfU32 w1) w2).mono fun e W' ⟨he, bel⟩ => ?_
  subst he
  exact ⟨_, rfl, _, _, _, [], _, [], hW', trodAll_mk1 (shut_bool Try.underlying4 _), (trodAll_cons_mk (shut_int Try.underlying32 w0) (trodAll_cons_mk (shut_int Try.underlying31 w1) (trodAll_cons_mk (Below.trod laidOut (by kernel_rfl) (of_decide_eq_true (by kernel_rfl)) k2 bel lt2) trodAll_mk0))), rfl, bel.frame _, fun h => by cases h⟩

theorem over : Rows.pacerBoundsRow.holds Try.pinned (OpenSpec.ofChange Rows.pacerBoundsSpec) :=
  OpenClaim.holds_of_wide 6 Try.f6 rfl rfl rfl rfl rfl rfl rfl ⟨rfl, rfl, rfl, rfl, rfl⟩ rfl rfl rfl rfl rfl (by kernel_rfl) Try.func6 (by kernel_rfl)
    (of_decide_eq_true (by kernel_rfl)) (by unfold Func.isWrapper; first | (rw [if_pos (by decide +kernel)]; kernel_rfl) | (rw [if_neg (by decide +kernel)]; exact ⟨rfl, rfl⟩))
    (fun os started H enc _ => lifted os started H enc)

/-- THE STATEMENT -/
theorem proved : Rows.PacerBoundsSaid := over
end Go.Proofs.Ytanebjapcpbdnaa.pacerBounds
