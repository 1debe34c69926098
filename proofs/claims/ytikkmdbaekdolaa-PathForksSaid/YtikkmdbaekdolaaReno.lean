/- package reno, and the reference's: what Slow, Grow and Cut return, for all windows. -/
import Derived.Test.YtikkmdbaekdolaaSat
import Derived.StillTailTactics
namespace Go.Proofs.Ytikkmdbaekdolaa
open Go.RowKit Go.Lib
set_option linter.unusedVariables false
set_option maxRecDepth 100000

/-- a contract that leaves the world alone, said the other way round -/
theorem turn {P : Program} {f : FuncId} {args : Array Value} {w : World} {v : Value} (h : Calls P f args w fun e w' => e = .returned v ∧ w = w') : Calls P f args w fun e w' => e = .returned v ∧ w' = w :=
  h.mono fun _ _ ⟨a, b⟩ => ⟨a, b.symm⟩
/-- a region that draws: its head only reads, its tail goes as the text goes -/
theorem region_tail {P : Program} {id : Nat} {Q : Exit → Act → World → Prop} {a : Act} {w : World} {l : List Oper} (n : Nat) (hm : P.follows .mixedOrders = true) (hB : Region.lexTailB .any l.toArray n = true)
    (h : wpStill P l.toArray w.drew (fun a' => wpList P l.toArray Q (l.drop n) a' w.drew) (l.take n) a) : (Code.region id l.toArray true).wp P Q a w :=
  wp_region_still_tail n hm hB h
/-- slow start -/
def slowI (c ak ms : Int) : Int := addI c (min ak (mulI 2 ms))
/-- the window, and what is counted, behind an acknowledgment -/
def growC (c t a ak ms : Int) : Int := if c < t then slowI c ak ms else if c ≤ addI a ak then addI c ms else c
def growA (c t a ak ms : Int) : Int := if c < t then a else if c ≤ addI a ak then addI a ak - c else addI a ak

set_option maxHeartbeats 400000 in
theorem nSlow (c t a p e k f ak ms : Int) (hc : W64 c) (hak : W64 ak) (hms : W64 ms) (w : World) :
    Calls Try.prog 106 #[.agg #[.int .u64 c, .int .u64 t, .int .u64 a, .int .u64 p, .int .u64 e, .int .u64 k, .int .u64 f], .int .u64 ak, .int .u64 ms] w fun e' w' => e' = .returned (.agg #[.int .u64 (slowI c ak ms), .int .u64 t, .int .u64 a, .int .u64 p, .int .u64 e, .int .u64 k, .int .u64 f]) ∧ Gr w w' := by
  have Hc := Lib.hid hc
  have Hm := Lib.hid hms
  have HM := Lib.hid (show W64 (min ak (mulI 2 ms)) from by have := mulI_W 2 ms ⟨by omega, by omega⟩ hms; unfold W64 at *; omega)
  have He : Hid (addI c (min ak (mulI 2 ms)) = slowI c ak ms) := rfl
  clear hc hak hms
  go_enter Try.func106, Try.ntmps106
  go_wp2_with fail
  refine region_tail 8 (by kernel_rfl) (by kernel_rfl) ?_
  simp only [List.take_succ_cons, List.take_zero, List.drop_succ_cons, List.drop_zero]
  repeat still_step
  still_call (turn (sMul _ _ (Wlit (by omega)) Hm.out _))
  repeat still_step
  still_call (turn (sAdd _ _ Hc.out HM.out _))
  repeat still_step
  refine wpStill_nil ?_
  go_wp2_with fail
  refine bodyPost_ret (v := .agg #[.int .u64 (slowI c ak ms), .int .u64 t, .int .u64 a, .int .u64 p, .int .u64 e, .int .u64 k, .int .u64 f]) (by rw [← He.out]; simp [results, Try.results106, go_sem]) rfl ⟨rfl, ?_⟩
  repeat (first | exact Gr.refl _ | apply Gr.drewN | apply Gr.drew | apply Gr.gw | apply Gr.alloc)

set_option maxHeartbeats 400000 in
theorem qSlow (c t a p e k f ak ms : Int) (hc : W64 c) (hak : W64 ak) (hms : W64 ms) (w : World) :
    Calls Try.prog 111 #[.agg #[.int .u64 c, .int .u64 t, .int .u64 a, .int .u64 p, .int .u64 e, .int .u64 k, .int .u64 f], .int .u64 ak, .int .u64 ms] w fun e' w' => e' = .returned (.agg #[.int .u64 (slowI c ak ms), .int .u64 t, .int .u64 a, .int .u64 p, .int .u64 e, .int .u64 k, .int .u64 f]) ∧ Gr w w' := by
  have Hc := Lib.hid hc
  have Hm := Lib.hid hms
  have HM := Lib.hid (show W64 (min ak (mulI 2 ms)) from by have := mulI_W 2 ms ⟨by omega, by omega⟩ hms; unfold W64 at *; omega)
  have He : Hid (addI c (min ak (mulI 2 ms)) = slowI c ak ms) := rfl
  clear hc hak hms
  go_enter Try.func111, Try.ntmps111
  go_wp2_with fail
  refine region_tail 8 (by kernel_rfl) (by kernel_rfl) ?_
  simp only [List.take_succ_cons, List.take_zero, List.drop_succ_cons, List.drop_zero]
  repeat still_step
  still_call (turn (rMul _ _ (Wlit (by omega)) Hm.out _))
  repeat still_step
  still_call (turn (rAdd _ _ Hc.out HM.out _))
  repeat still_step
  refine wpStill_nil ?_
  go_wp2_with fail
  refine bodyPost_ret (v := .agg #[.int .u64 (slowI c ak ms), .int .u64 t, .int .u64 a, .int .u64 p, .int .u64 e, .int .u64 k, .int .u64 f]) (by rw [← He.out]; simp [results, Try.results111, go_sem]) rfl ⟨rfl, ?_⟩
  repeat (first | exact Gr.refl _ | apply Gr.drewN | apply Gr.drew | apply Gr.gw | apply Gr.alloc)

set_option maxHeartbeats 400000 in
theorem nGrow (c t a p e k f ak ms : Int) (hc : W64 c) (ha : W64 a) (hak : W64 ak) (hms : W64 ms) (w : World) :
    Calls Try.prog 71 #[.agg #[.int .u64 c, .int .u64 t, .int .u64 a, .int .u64 p, .int .u64 e, .int .u64 k, .int .u64 f], .int .u64 ak, .int .u64 ms] w fun e' w' => e' = .returned (.agg #[.int .u64 (growC c t a ak ms), .int .u64 t, .int .u64 (growA c t a ak ms), .int .u64 p, .int .u64 e, .int .u64 k, .int .u64 f]) ∧ Gr w w' := by
  have Hc := Lib.hid hc
  have Ha := Lib.hid ha
  have Hm := Lib.hid hms
  have Hk := Lib.hid hak
  by_cases h : c < t
  · have He : Hid (slowI c ak ms = growC c t a ak ms ∧ a = growA c t a ak ms) := by show _ ∧ _; unfold growC growA; rw [if_pos h, if_pos h]; exact ⟨rfl, rfl⟩
    clear hc ha hak hms
    go_enter Try.func71, Try.ntmps71
    go_wp2_with fail
    refine (nSlow c t a p e k f ak ms Hc.out Hk.out Hm.out _).mono ?_; rintro e' w1 ⟨rfl, n1, os1, rfl⟩
    go_wp2_with fail
    refine bodyPost_ret (v := .agg #[.int .u64 (growC c t a ak ms), .int .u64 t, .int .u64 (growA c t a ak ms), .int .u64 p, .int .u64 e, .int .u64 k, .int .u64 f]) (by rw [← He.out.1, ← He.out.2]; simp [results, Try.results71, go_sem]) rfl ⟨rfl, ?_⟩
    repeat (first | exact Gr.refl _ | apply Gr.drewN | apply Gr.drew | apply Gr.gw | apply Gr.alloc)
  · by_cases h2 : c ≤ addI a ak
    · have He : Hid (addI c ms = growC c t a ak ms ∧ addI a ak - c = growA c t a ak ms) := by show _ ∧ _; unfold growC growA; rw [if_neg h, if_neg h, if_pos h2, if_pos h2]; exact ⟨rfl, rfl⟩
      have hb1 : 0 ≤ c := hc.1
      have hb2 : addI a ak ≤ 18446744073709551615 := (addI_W a ak ha hak).2
      have h3 : t ≤ c := by omega
      clear hc ha hak hms h
      go_enter Try.func71, Try.ntmps71
      go_wp2_with fail
      refine (sAdd _ _ Ha.out Hk.out _).mono ?_; rintro e' w' ⟨rfl, rfl⟩
      go_wp2_with fail
      refine (sAdd _ _ Hc.out Hm.out _).mono ?_; rintro e' w' ⟨rfl, rfl⟩
      go_wp2_with fail
      refine bodyPost_ret (v := .agg #[.int .u64 (growC c t a ak ms), .int .u64 t, .int .u64 (growA c t a ak ms), .int .u64 p, .int .u64 e, .int .u64 k, .int .u64 f]) (by rw [← He.out.1, ← He.out.2]; simp [results, Try.results71, go_sem]) rfl ⟨rfl, ?_⟩
      repeat (first | exact Gr.refl _ | apply Gr.drewN | apply Gr.drew | apply Gr.gw | apply Gr.alloc)
    · have He : Hid (c = growC c t a ak ms ∧ addI a ak = growA c t a ak ms) := by show _ ∧ _; unfold growC growA; rw [if_neg h, if_neg h, if_neg h2, if_neg h2]; exact ⟨rfl, rfl⟩
      have h3 : t ≤ c := by omega
      have h4 : addI a ak < c := by omega
      clear hc ha hak hms h h2
      go_enter Try.func71, Try.ntmps71
      go_wp2_with fail
      refine (sAdd _ _ Ha.out Hk.out _).mono ?_; rintro e' w' ⟨rfl, rfl⟩
      go_wp2_with fail
      refine bodyPost_ret (v := .agg #[.int .u64 (growC c t a ak ms), .int .u64 t, .int .u64 (growA c t a ak ms), .int .u64 p, .int .u64 e, .int .u64 k, .int .u64 f]) (by rw [← He.out.1, ← He.out.2]; simp [results, Try.results71, go_sem]) rfl ⟨rfl, ?_⟩
      repeat (first | exact Gr.refl _ | apply Gr.drewN | apply Gr.drew | apply Gr.gw | apply Gr.alloc)

set_option maxHeartbeats 400000 in
theorem qGrow (c t a p e k f ak ms : Int) (hc : W64 c) (ha : W64 a) (hak : W64 ak) (hms : W64 ms) (w : World) :
    Calls Try.prog 73 #[.agg #[.int .u64 c, .int .u64 t, .int .u64 a, .int .u64 p, .int .u64 e, .int .u64 k, .int .u64 f], .int .u64 ak, .int .u64 ms] w fun e' w' => e' = .returned (.agg #[.int .u64 (growC c t a ak ms), .int .u64 t, .int .u64 (growA c t a ak ms), .int .u64 p, .int .u64 e, .int .u64 k, .int .u64 f]) ∧ Gr w w' := by
  have Hc := Lib.hid hc
  have Ha := Lib.hid ha
  have Hm := Lib.hid hms
  have Hk := Lib.hid hak
  by_cases h : c < t
  · have He : Hid (slowI c ak ms = growC c t a ak ms ∧ a = growA c t a ak ms) := by show _ ∧ _; unfold growC growA; rw [if_pos h, if_pos h]; exact ⟨rfl, rfl⟩
    clear hc ha hak hms
    go_enter Try.func73, Try.ntmps73
    go_wp2_with fail
    refine (qSlow c t a p e k f ak ms Hc.out Hk.out Hm.out _).mono ?_; rintro e' w1 ⟨rfl, n1, os1, rfl⟩
    go_wp2_with fail
    refine bodyPost_ret (v := .agg #[.int .u64 (growC c t a ak ms), .int .u64 t, .int .u64 (growA c t a ak ms), .int .u64 p, .int .u64 e, .int .u64 k, .int .u64 f]) (by rw [← He.out.1, ← He.out.2]; simp [results, Try.results73, go_sem]) rfl ⟨rfl, ?_⟩
    repeat (first | exact Gr.refl _ | apply Gr.drewN | apply Gr.drew | apply Gr.gw | apply Gr.alloc)
  · by_cases h2 : c ≤ addI a ak
    · have He : Hid (addI c ms = growC c t a ak ms ∧ addI a ak - c = growA c t a ak ms) := by show _ ∧ _; unfold growC growA; rw [if_neg h, if_neg h, if_pos h2, if_pos h2]; exact ⟨rfl, rfl⟩
      have hb1 : 0 ≤ c := hc.1
      have hb2 : addI a ak ≤ 18446744073709551615 := (addI_W a ak ha hak).2
      have h3 : t ≤ c := by omega
      clear hc ha hak hms h
      go_enter Try.func73, Try.ntmps73
      go_wp2_with fail
      refine (rAdd _ _ Ha.out Hk.out _).mono ?_; rintro e' w' ⟨rfl, rfl⟩
      go_wp2_with fail
      refine (rAdd _ _ Hc.out Hm.out _).mono ?_; rintro e' w' ⟨rfl, rfl⟩
      go_wp2_with fail
      refine bodyPost_ret (v := .agg #[.int .u64 (growC c t a ak ms), .int .u64 t, .int .u64 (growA c t a ak ms), .int .u64 p, .int .u64 e, .int .u64 k, .int .u64 f]) (by rw [← He.out.1, ← He.out.2]; simp [results, Try.results73, go_sem]) rfl ⟨rfl, ?_⟩
      repeat (first | exact Gr.refl _ | apply Gr.drewN | apply Gr.drew | apply Gr.gw | apply Gr.alloc)
    · have He : Hid (c = growC c t a ak ms ∧ addI a ak = growA c t a ak ms) := by show _ ∧ _; unfold growC growA; rw [if_neg h, if_neg h, if_neg h2, if_neg h2]; exact ⟨rfl, rfl⟩
      have h3 : t ≤ c := by omega
      have h4 : addI a ak < c := by omega
      clear hc ha hak hms h h2
      go_enter Try.func73, Try.ntmps73
      go_wp2_with fail
      refine (rAdd _ _ Ha.out Hk.out _).mono ?_; rintro e' w' ⟨rfl, rfl⟩
      go_wp2_with fail
      refine bodyPost_ret (v := .agg #[.int .u64 (growC c t a ak ms), .int .u64 t, .int .u64 (growA c t a ak ms), .int .u64 p, .int .u64 e, .int .u64 k, .int .u64 f]) (by rw [← He.out.1, ← He.out.2]; simp [results, Try.results73, go_sem]) rfl ⟨rfl, ?_⟩
      repeat (first | exact Gr.refl _ | apply Gr.drewN | apply Gr.drew | apply Gr.gw | apply Gr.alloc)

set_option maxHeartbeats 400000 in
theorem nCut (c t a p e k f n d : Int) (hc : W64 c) (hn : W64 n) (hd : W64 d) (w : World) :
    Calls Try.prog 101 #[.agg #[.int .u64 c, .int .u64 t, .int .u64 a, .int .u64 p, .int .u64 e, .int .u64 k, .int .u64 f], .int .u64 n, .int .u64 d] w fun e' w' => e' = .returned (.agg #[.int .u64 (downI c n d), .int .u64 (downI c n d), .int .u64 0, .int .u64 p, .int .u64 e, .int .u64 k, .int .u64 f]) ∧ Gr w w' := by
  have Hc := Lib.hid hc
  have Hn := Lib.hid hn
  have Hd := Lib.hid hd
  clear hc hn hd
  go_enter Try.func101, Try.ntmps101
  go_wp2_with fail
  refine (wDown _ _ _ Hc.out Hn.out Hd.out _).mono ?_; rintro e' w1 ⟨rfl, n1, rfl⟩
  go_wp2_with fail
  refine bodyPost_ret (v := .agg #[.int .u64 (downI c n d), .int .u64 (downI c n d), .int .u64 0, .int .u64 p, .int .u64 e, .int .u64 k, .int .u64 f]) (by simp [results, Try.results101, go_sem]) rfl ⟨rfl, ?_⟩
  repeat (first | exact Gr.refl _ | apply Gr.drewN | apply Gr.drew | apply Gr.gw | apply Gr.alloc)

set_option maxHeartbeats 400000 in
theorem qCut (c t a p e k f n d : Int) (hc : W64 c) (hn : W64 n) (hd : W64 d) (w : World) :
    Calls Try.prog 97 #[.agg #[.int .u64 c, .int .u64 t, .int .u64 a, .int .u64 p, .int .u64 e, .int .u64 k, .int .u64 f], .int .u64 n, .int .u64 d] w fun e' w' => e' = .returned (.agg #[.int .u64 (downI c n d), .int .u64 (downI c n d), .int .u64 0, .int .u64 p, .int .u64 e, .int .u64 k, .int .u64 f]) ∧ Gr w w' := by
  have Hc := Lib.hid hc
  have Hn := Lib.hid hn
  have Hd := Lib.hid hd
  clear hc hn hd
  go_enter Try.func97, Try.ntmps97
  go_wp2_with fail
  refine (rDownG _ _ _ Hc.out Hn.out Hd.out _).mono ?_; rintro e' w1 ⟨rfl, n1, os1, rfl⟩
  go_wp2_with fail
  refine bodyPost_ret (v := .agg #[.int .u64 (downI c n d), .int .u64 (downI c n d), .int .u64 0, .int .u64 p, .int .u64 e, .int .u64 k, .int .u64 f]) (by simp [results, Try.results97, go_sem]) rfl ⟨rfl, ?_⟩
  repeat (first | exact Gr.refl _ | apply Gr.drewN | apply Gr.drew | apply Gr.gw | apply Gr.alloc)

end Go.Proofs.Ytikkmdbaekdolaa
