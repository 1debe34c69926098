/- package pacer, and the reference's: what a bucket is when it is filled, whether bytes may go, and when. -/
import Derived.Test.YtanebjapcpbdnaaSat
import Derived.Test.YtanebjapcpbdnaaReno
import Derived.StillTailTactics
import Derived.Test.YtanebjapcpbdnaaQuiet
import Derived.Deep.RegionHeld3
namespace Go.Proofs.Ytanebjapcpbdnaa
open Go.RowKit Go.Lib
set_option linter.unusedVariables false

/-- what a bucket holds -/
def fullI (b : Int) : Int := mulI b 1000000
/-- the bucket's tokens at a time -/
def fillT (t a r b n : Int) : Int := min (addI t (mulI r (subI n a))) (fullI b)
/-- when bytes may go -/
def nextI (t a r b n s : Int) : Int := if fullI s ≤ fillT t a r b n then max a n else if fullI b < fullI s ∨ r = 0 then 18446744073709551615 else addI (max a n) (upI (fullI s - fillT t a r b n) 1 r)
theorem fullI_W {b : Int} (hb : W64 b) : W64 (fullI b) := mulI_W b 1000000 hb ⟨by omega, by omega⟩
theorem fillT_W {t a r b n : Int} (ht : W64 t) (ha : W64 a) (hr : W64 r) (hb : W64 b) (hn : W64 n) : W64 (fillT t a r b n) := by
  have h1 := addI_W t (mulI r (subI n a)) ht (mulI_W _ _ hr (subI_W _ _ hn ha))
  have h2 := fullI_W hb
  unfold fillT W64 at *
  omega
theorem max_W {a b : Int} (ha : W64 a) (hb : W64 b) : W64 (max a b) := by unfold W64 at *; omega
/-- a contract that only draws, said the other way round -/
theorem turnD {P : Program} {f : FuncId} {args : Array Value} {w : World} {v : Value} (h : Calls P f args w fun e w' => e = .returned v ∧ ∃ n, w.drewN n = w') : Calls P f args w fun e w' => e = .returned v ∧ ∃ n, w' = w.drewN n :=
  h.mono fun _ _ ⟨a, n, b⟩ => ⟨a, n, b.symm⟩

set_option maxHeartbeats 1000000 in
theorem pcFull (b : Int) (hb : W64 b) (w : World) :
    Calls Try.prog 34 #[.int .u64 b] w fun e' w' => e' = .returned (.int .u64 (fullI b)) ∧ w = w' := by
  have Hb := Lib.hid hb
  clear hb
  go_enter Try.func34, Try.ntmps34
  go_wp2_with (go_at_call 42; refine (sMul _ _ Hb.out ⟨by omega, by omega⟩ _).mono ?_; rintro e w' ⟨rfl, rfl⟩)
  go_ret
  exact ⟨rfl, rfl⟩
set_option maxHeartbeats 1000000 in
theorem qpFull (b : Int) (hb : W64 b) (w : World) :
    Calls Try.prog 38 #[.int .u64 b] w fun e' w' => e' = .returned (.int .u64 (fullI b)) ∧ w = w' := by
  have Hb := Lib.hid hb
  clear hb
  go_enter Try.func38, Try.ntmps38
  go_wp2_with (go_at_call 23; refine (rMul _ _ Hb.out ⟨by omega, by omega⟩ _).mono ?_; rintro e w' ⟨rfl, rfl⟩)
  go_ret
  exact ⟨rfl, rfl⟩
set_option maxHeartbeats 1000000 in
theorem pcFill (t a r b n : Int) (ht : W64 t) (ha : W64 a) (hr : W64 r) (hb : W64 b) (hn : W64 n) (w : World) :
    Calls Try.prog 20 #[.agg #[.int .u64 t, .int .u64 a, .int .u64 r], .int .u64 b, .int .u64 n] w fun e' w' => e' = .returned (.agg #[.int .u64 (fillT t a r b n), .int .u64 (max a n), .int .u64 r]) ∧ Gr w w' := by
  have H1 := Lib.hid (subI_W n a hn ha)
  have H2 := Lib.hid (mulI_W r (subI n a) hr (subI_W n a hn ha))
  have Ht := Lib.hid ht
  have Ha := Lib.hid ha
  have Hr := Lib.hid hr
  have Hb := Lib.hid hb
  have Hn := Lib.hid hn
  clear ht ha hr hb hn
  have He : Hid (min (addI t (mulI r (subI n a))) (fullI b) = fillT t a r b n) := by show _ = _; unfold fillT; omega
  go_enter Try.func20, Try.ntmps20
  go_wp2_with fail
  refine region_tail 14 (by kernel_rfl) (by kernel_rfl) ?_
  simp only [List.take_succ_cons, List.take_zero, List.drop_succ_cons, List.drop_zero]
  repeat still_step
  still_call (turn (kSince n a Hn.out Ha.out _))
  repeat still_step
  still_call (turn (sMul r (subI n a) Hr.out H1.out _))
  repeat still_step
  still_call (turn (sAdd t (mulI r (subI n a)) Ht.out H2.out _))
  repeat still_step
  still_call (turn (pcFull b Hb.out _))
  repeat still_step
  refine wpStill_nil ?_
  rw [He.out]
  go_wp2_with fail
  refine bodyPost_ret (v := .agg #[.int .u64 (fillT t a r b n), .int .u64 (max a n), .int .u64 r]) (by simp [results, Try.results20, go_sem]) rfl ⟨rfl, ?_⟩
  repeat (first | exact Gr.refl _ | apply Gr.drewN | apply Gr.drew | apply Gr.gw | apply Gr.alloc)
set_option maxHeartbeats 1000000 in
theorem qpFill (t a r b n : Int) (ht : W64 t) (ha : W64 a) (hr : W64 r) (hb : W64 b) (hn : W64 n) (w : World) :
    Calls Try.prog 35 #[.agg #[.int .u64 t, .int .u64 a, .int .u64 r], .int .u64 b, .int .u64 n] w fun e' w' => e' = .returned (.agg #[.int .u64 (fillT t a r b n), .int .u64 (max a n), .int .u64 r]) ∧ Gr w w' := by
  have H1 := Lib.hid (subI_W n a hn ha)
  have H2 := Lib.hid (mulI_W r (subI n a) hr (subI_W n a hn ha))
  have Ht := Lib.hid ht
  have Ha := Lib.hid ha
  have Hr := Lib.hid hr
  have Hb := Lib.hid hb
  have Hn := Lib.hid hn
  clear ht ha hr hb hn
  have He : Hid (min (fullI b) (addI t (mulI r (subI n a))) = fillT t a r b n) := by show _ = _; unfold fillT; omega
  go_enter Try.func35, Try.ntmps35
  go_wp2_with fail
  refine region_tail 14 (by kernel_rfl) (by kernel_rfl) ?_
  simp only [List.take_succ_cons, List.take_zero, List.drop_succ_cons, List.drop_zero]
  repeat still_step
  still_call (turn (qpFull b Hb.out _))
  repeat still_step
  still_call (turn (rSub n a Hn.out Ha.out _))
  repeat still_step
  still_call (turn (rMul r (subI n a) Hr.out H1.out _))
  repeat still_step
  still_call (turn (rAdd t (mulI r (subI n a)) Ht.out H2.out _))
  repeat still_step
  refine wpStill_nil ?_
  rw [He.out]
  go_wp2_with fail
  refine bodyPost_ret (v := .agg #[.int .u64 (fillT t a r b n), .int .u64 (max a n), .int .u64 r]) (by simp [results, Try.results35, go_sem]) rfl ⟨rfl, ?_⟩
  repeat (first | exact Gr.refl _ | apply Gr.drewN | apply Gr.drew | apply Gr.gw | apply Gr.alloc)
set_option maxHeartbeats 1000000 in
theorem pcTakeYes (t a r b n s : Int) (ht : W64 t) (ha : W64 a) (hr : W64 r) (hb : W64 b) (hn : W64 n) (hs : W64 s) (h : fullI s ≤ fillT t a r b n) (w : World) :
    Calls Try.prog 16 #[.agg #[.int .u64 t, .int .u64 a, .int .u64 r], .int .u64 b, .int .u64 n, .int .u64 s] w fun e' w' => e' = .returned (.tuple #[.agg #[.int .u64 (fillT t a r b n - fullI s), .int .u64 (max a n), .int .u64 r], .bool true]) ∧ Gr w w' := by
  have Hs := Lib.hid hs
  have HF := Lib.hid (fillT_W ht ha hr hb hn)
  have hf1 : 0 ≤ fullI s := (fullI_W hs).1
  have hf2 : fillT t a r b n ≤ 18446744073709551615 := (fillT_W ht ha hr hb hn).2
  clear hs
  have Ht := Lib.hid ht
  have Ha := Lib.hid ha
  have Hr := Lib.hid hr
  have Hb := Lib.hid hb
  have Hn := Lib.hid hn
  clear ht ha hr hb hn
  go_enter Try.func16, Try.ntmps16
  go_wp2_with fail
  refine (pcFill t a r b n Ht.out Ha.out Hr.out Hb.out Hn.out _).mono ?_; rintro e' w' ⟨rfl, n1, os1, rfl⟩
  go_wp2_with fail
  refine (pcFull s Hs.out _).mono ?_; rintro e' w' ⟨rfl, rfl⟩
  go_wp2_with fail
  refine bodyPost_ret (v := .tuple #[.agg #[.int .u64 (fillT t a r b n - fullI s), .int .u64 (max a n), .int .u64 r], .bool true]) (by simp [results, Try.results16, go_sem]) rfl ⟨rfl, ?_⟩
  repeat (first | exact Gr.refl _ | apply Gr.drewN | apply Gr.drew | apply Gr.gw | apply Gr.alloc)
set_option maxHeartbeats 1000000 in
theorem pcTakeNo (t a r b n s : Int) (ht : W64 t) (ha : W64 a) (hr : W64 r) (hb : W64 b) (hn : W64 n) (hs : W64 s) (h : fillT t a r b n < fullI s) (w : World) :
    Calls Try.prog 16 #[.agg #[.int .u64 t, .int .u64 a, .int .u64 r], .int .u64 b, .int .u64 n, .int .u64 s] w fun e' w' => e' = .returned (.tuple #[.agg #[.int .u64 (fillT t a r b n), .int .u64 (max a n), .int .u64 r], .bool false]) ∧ Gr w w' := by
  have Hs := Lib.hid hs
  have HF := Lib.hid (fillT_W ht ha hr hb hn)
  have hf1 : 0 ≤ fullI s := (fullI_W hs).1
  have hf2 : fillT t a r b n ≤ 18446744073709551615 := (fillT_W ht ha hr hb hn).2
  clear hs
  have Ht := Lib.hid ht
  have Ha := Lib.hid ha
  have Hr := Lib.hid hr
  have Hb := Lib.hid hb
  have Hn := Lib.hid hn
  clear ht ha hr hb hn
  go_enter Try.func16, Try.ntmps16
  go_wp2_with fail
  refine (pcFill t a r b n Ht.out Ha.out Hr.out Hb.out Hn.out _).mono ?_; rintro e' w' ⟨rfl, n1, os1, rfl⟩
  go_wp2_with fail
  refine (pcFull s Hs.out _).mono ?_; rintro e' w' ⟨rfl, rfl⟩
  go_wp2_with fail
  refine bodyPost_ret (v := .tuple #[.agg #[.int .u64 (fillT t a r b n), .int .u64 (max a n), .int .u64 r], .bool false]) (by simp [results, Try.results16, go_sem]) rfl ⟨rfl, ?_⟩
  repeat (first | exact Gr.refl _ | apply Gr.drewN | apply Gr.drew | apply Gr.gw | apply Gr.alloc)
set_option maxHeartbeats 1000000 in
theorem qpTakeYes (t a r b n s : Int) (ht : W64 t) (ha : W64 a) (hr : W64 r) (hb : W64 b) (hn : W64 n) (hs : W64 s) (h : fullI s ≤ fillT t a r b n) (w : World) :
    Calls Try.prog 17 #[.agg #[.int .u64 t, .int .u64 a, .int .u64 r], .int .u64 b, .int .u64 n, .int .u64 s] w fun e' w' => e' = .returned (.tuple #[.agg #[.int .u64 (fillT t a r b n - fullI s), .int .u64 (max a n), .int .u64 r], .bool true]) ∧ Gr w w' := by
  have Hs := Lib.hid hs
  have HF := Lib.hid (fillT_W ht ha hr hb hn)
  have hf1 : 0 ≤ fullI s := (fullI_W hs).1
  have hf2 : fillT t a r b n ≤ 18446744073709551615 := (fillT_W ht ha hr hb hn).2
  clear hs
  have Ht := Lib.hid ht
  have Ha := Lib.hid ha
  have Hr := Lib.hid hr
  have Hb := Lib.hid hb
  have Hn := Lib.hid hn
  clear ht ha hr hb hn
  go_enter Try.func17, Try.ntmps17
  go_wp2_with fail
  refine (qpFill t a r b n Ht.out Ha.out Hr.out Hb.out Hn.out _).mono ?_; rintro e' w' ⟨rfl, n1, os1, rfl⟩
  go_wp2_with fail
  refine (rMul s 1000000 Hs.out ⟨by omega, by omega⟩ _).mono ?_; rintro e' w' ⟨rfl, rfl⟩
  rw [show mulI s 1000000 = fullI s from rfl]
  go_wp2_with fail
  refine bodyPost_ret (v := .tuple #[.agg #[.int .u64 (fillT t a r b n - fullI s), .int .u64 (max a n), .int .u64 r], .bool true]) (by simp [results, Try.results17, go_sem]) rfl ⟨rfl, ?_⟩
  repeat (first | exact Gr.refl _ | apply Gr.drewN | apply Gr.drew | apply Gr.gw | apply Gr.alloc)
set_option maxHeartbeats 1000000 in
theorem qpTakeNo (t a r b n s : Int) (ht : W64 t) (ha : W64 a) (hr : W64 r) (hb : W64 b) (hn : W64 n) (hs : W64 s) (h : fillT t a r b n < fullI s) (w : World) :
    Calls Try.prog 17 #[.agg #[.int .u64 t, .int .u64 a, .int .u64 r], .int .u64 b, .int .u64 n, .int .u64 s] w fun e' w' => e' = .returned (.tuple #[.agg #[.int .u64 (fillT t a r b n), .int .u64 (max a n), .int .u64 r], .bool false]) ∧ Gr w w' := by
  have Hs := Lib.hid hs
  have HF := Lib.hid (fillT_W ht ha hr hb hn)
  have hf1 : 0 ≤ fullI s := (fullI_W hs).1
  have hf2 : fillT t a r b n ≤ 18446744073709551615 := (fillT_W ht ha hr hb hn).2
  clear hs
  have Ht := Lib.hid ht
  have Ha := Lib.hid ha
  have Hr := Lib.hid hr
  have Hb := Lib.hid hb
  have Hn := Lib.hid hn
  clear ht ha hr hb hn
  go_enter Try.func17, Try.ntmps17
  go_wp2_with fail
  refine (qpFill t a r b n Ht.out Ha.out Hr.out Hb.out Hn.out _).mono ?_; rintro e' w' ⟨rfl, n1, os1, rfl⟩
  go_wp2_with fail
  refine (rMul s 1000000 Hs.out ⟨by omega, by omega⟩ _).mono ?_; rintro e' w' ⟨rfl, rfl⟩
  rw [show mulI s 1000000 = fullI s from rfl]
  go_wp2_with fail
  refine bodyPost_ret (v := .tuple #[.agg #[.int .u64 (fillT t a r b n), .int .u64 (max a n), .int .u64 r], .bool false]) (by simp [results, Try.results17, go_sem]) rfl ⟨rfl, ?_⟩
  repeat (first | exact Gr.refl _ | apply Gr.drewN | apply Gr.drew | apply Gr.gw | apply Gr.alloc)
set_option maxHeartbeats 1000000 in
theorem pcNextNow (t a r b n s : Int) (ht : W64 t) (ha : W64 a) (hr : W64 r) (hb : W64 b) (hn : W64 n) (hs : W64 s) (h : fullI s ≤ fillT t a r b n) (w : World) :
    Calls Try.prog 18 #[.agg #[.int .u64 t, .int .u64 a, .int .u64 r], .int .u64 b, .int .u64 n, .int .u64 s] w fun e' w' => e' = .returned (.int .u64 (max a n)) ∧ Gr w w' := by
  have Hs := Lib.hid hs
  have hf0 : fullI s ≤ 18446744073709551615 := (fullI_W hs).2
  have hf1 : 0 ≤ fullI s := (fullI_W hs).1
  have hf2 : fillT t a r b n ≤ 18446744073709551615 := (fillT_W ht ha hr hb hn).2
  have hf3 : 0 ≤ fillT t a r b n := (fillT_W ht ha hr hb hn).1
  clear hs
  have Ht := Lib.hid ht
  have Ha := Lib.hid ha
  have Hr := Lib.hid hr
  have Hb := Lib.hid hb
  have Hn := Lib.hid hn
  clear ht ha hr hb hn
  go_enter Try.func18, Try.ntmps18
  go_wp2_with fail
  refine (pcFill t a r b n Ht.out Ha.out Hr.out Hb.out Hn.out _).mono ?_; rintro e' w' ⟨rfl, n1, os1, rfl⟩
  go_wp2_with fail
  refine (pcFull s Hs.out _).mono ?_; rintro e' w' ⟨rfl, rfl⟩
  go_wp2_with fail
  go_ret
  exact ⟨rfl, by repeat (first | exact Gr.refl _ | apply Gr.drewN | apply Gr.drew | apply Gr.gw | apply Gr.alloc)⟩
set_option maxHeartbeats 1000000 in
theorem pcNextBig (t a r b n s : Int) (ht : W64 t) (ha : W64 a) (hr : W64 r) (hb : W64 b) (hn : W64 n) (hs : W64 s) (h : fillT t a r b n < fullI s) (h2 : fullI b < fullI s) (w : World) :
    Calls Try.prog 18 #[.agg #[.int .u64 t, .int .u64 a, .int .u64 r], .int .u64 b, .int .u64 n, .int .u64 s] w fun e' w' => e' = .returned (.int .u64 (18446744073709551615)) ∧ Gr w w' := by
  have Hs := Lib.hid hs
  have hf0 : fullI s ≤ 18446744073709551615 := (fullI_W hs).2
  have hf1 : 0 ≤ fullI s := (fullI_W hs).1
  have hf2 : fillT t a r b n ≤ 18446744073709551615 := (fillT_W ht ha hr hb hn).2
  have hf3 : 0 ≤ fillT t a r b n := (fillT_W ht ha hr hb hn).1
  clear hs
  have Ht := Lib.hid ht
  have Ha := Lib.hid ha
  have Hr := Lib.hid hr
  have Hb := Lib.hid hb
  have Hn := Lib.hid hn
  clear ht ha hr hb hn
  go_enter Try.func18, Try.ntmps18
  go_wp2_with fail
  refine (pcFill t a r b n Ht.out Ha.out Hr.out Hb.out Hn.out _).mono ?_; rintro e' w' ⟨rfl, n1, os1, rfl⟩
  go_wp2_with fail
  refine (pcFull s Hs.out _).mono ?_; rintro e' w' ⟨rfl, rfl⟩
  go_wp2_with fail
  refine (pcFull b Hb.out _).mono ?_; rintro e' w' ⟨rfl, rfl⟩
  go_wp2_with fail
  go_ret
  exact ⟨rfl, by repeat (first | exact Gr.refl _ | apply Gr.drewN | apply Gr.drew | apply Gr.gw | apply Gr.alloc)⟩
set_option maxHeartbeats 1000000 in
theorem pcNextNil (t a r b n s : Int) (ht : W64 t) (ha : W64 a) (hr : W64 r) (hb : W64 b) (hn : W64 n) (hs : W64 s) (h : fillT t a r b n < fullI s) (h2 : fullI s ≤ fullI b) (h3 : r = 0) (w : World) :
    Calls Try.prog 18 #[.agg #[.int .u64 t, .int .u64 a, .int .u64 r], .int .u64 b, .int .u64 n, .int .u64 s] w fun e' w' => e' = .returned (.int .u64 (18446744073709551615)) ∧ Gr w w' := by
  subst h3
  have Hs := Lib.hid hs
  have hf0 : fullI s ≤ 18446744073709551615 := (fullI_W hs).2
  have hf1 : 0 ≤ fullI s := (fullI_W hs).1
  have hf2 : fillT t a 0 b n ≤ 18446744073709551615 := (fillT_W ht ha hr hb hn).2
  have hf3 : 0 ≤ fillT t a 0 b n := (fillT_W ht ha hr hb hn).1
  clear hs
  have Ht := Lib.hid ht
  have Ha := Lib.hid ha
  have Hr := Lib.hid hr
  have Hb := Lib.hid hb
  have Hn := Lib.hid hn
  clear ht ha hr hb hn
  go_enter Try.func18, Try.ntmps18
  go_wp2_with fail
  refine (pcFill t a 0 b n Ht.out Ha.out Hr.out Hb.out Hn.out _).mono ?_; rintro e' w' ⟨rfl, n1, os1, rfl⟩
  go_wp2_with fail
  refine (pcFull s Hs.out _).mono ?_; rintro e' w' ⟨rfl, rfl⟩
  go_wp2_with fail
  refine (pcFull b Hb.out _).mono ?_; rintro e' w' ⟨rfl, rfl⟩
  go_wp2_with fail
  go_ret
  exact ⟨rfl, by repeat (first | exact Gr.refl _ | apply Gr.drewN | apply Gr.drew | apply Gr.gw | apply Gr.alloc)⟩
set_option maxHeartbeats 1000000 in
theorem pcNextLater (t a r b n s : Int) (ht : W64 t) (ha : W64 a) (hr : W64 r) (hb : W64 b) (hn : W64 n) (hs : W64 s) (h : fillT t a r b n < fullI s) (h2 : fullI s ≤ fullI b) (h3 : 0 < r) (w : World) :
    Calls Try.prog 18 #[.agg #[.int .u64 t, .int .u64 a, .int .u64 r], .int .u64 b, .int .u64 n, .int .u64 s] w fun e' w' => e' = .returned (.int .u64 (addI (max a n) (upI (fullI s - fillT t a r b n) 1 r))) ∧ Gr w w' := by
  have Hs := Lib.hid hs
  have hf0 : fullI s ≤ 18446744073709551615 := (fullI_W hs).2
  have hf1 : 0 ≤ fullI s := (fullI_W hs).1
  have hf2 : fillT t a r b n ≤ 18446744073709551615 := (fillT_W ht ha hr hb hn).2
  have hf3 : 0 ≤ fillT t a r b n := (fillT_W ht ha hr hb hn).1
  have HU := Lib.hid (upI_W (fullI s - fillT t a r b n) 1 r)
  have HM := Lib.hid (max_W ha hn)
  have HD := Lib.hid (show W64 (fullI s - fillT t a r b n) from Wlit (by omega))
  have h4 : (r == 0) = false := by rw [beq_eq_false_iff_ne]; omega
  clear hs
  have Ht := Lib.hid ht
  have Ha := Lib.hid ha
  have Hr := Lib.hid hr
  have Hb := Lib.hid hb
  have Hn := Lib.hid hn
  clear ht ha hr hb hn
  go_enter Try.func18, Try.ntmps18
  go_wp2_with fail
  refine (pcFill t a r b n Ht.out Ha.out Hr.out Hb.out Hn.out _).mono ?_; rintro e' w' ⟨rfl, n1, os1, rfl⟩
  go_wp2_with fail
  refine (pcFull s Hs.out _).mono ?_; rintro e' w' ⟨rfl, rfl⟩
  go_wp2_with fail
  refine (pcFull b Hb.out _).mono ?_; rintro e' w' ⟨rfl, rfl⟩
  go_wp2_with fail
  have hw : IntKind.u64.wrap (fullI s - fillT t a r b n) = fullI s - fillT t a r b n := by rw [IntKind.wrap_u64]; omega
  go_quiet ((first | (go_at_call 37; first | exact qD' (wUp (fullI s - fillT t a r b n) 1 r HD.out (Wlit (by omega)) Hr.out _) | exact qD (wUp (fullI s - fillT t a r b n) 1 r HD.out (Wlit (by omega)) Hr.out _)) | (go_at_call 36; first | exact qS' (kAfter (max a n) (upI (fullI s - fillT t a r b n) 1 r) HM.out HU.out _) | exact qS (kAfter (max a n) (upI (fullI s - fillT t a r b n) 1 r) HM.out HU.out _))))
  go_wp2_with fail
  go_ret
  exact ⟨rfl, by repeat (first | exact Gr.refl _ | apply Gr.drewN | apply Gr.drew | apply Gr.gw | apply Gr.alloc)⟩
set_option maxHeartbeats 1000000 in
theorem qpNextNow (t a r b n s : Int) (ht : W64 t) (ha : W64 a) (hr : W64 r) (hb : W64 b) (hn : W64 n) (hs : W64 s) (h : fullI s ≤ fillT t a r b n) (w : World) :
    Calls Try.prog 19 #[.agg #[.int .u64 t, .int .u64 a, .int .u64 r], .int .u64 b, .int .u64 n, .int .u64 s] w fun e' w' => e' = .returned (.int .u64 (max a n)) ∧ Gr w w' := by
  have Hs := Lib.hid hs
  have hf0 : fullI s ≤ 18446744073709551615 := (fullI_W hs).2
  have hf1 : 0 ≤ fullI s := (fullI_W hs).1
  have hf2 : fillT t a r b n ≤ 18446744073709551615 := (fillT_W ht ha hr hb hn).2
  have hf3 : 0 ≤ fillT t a r b n := (fillT_W ht ha hr hb hn).1
  clear hs
  have Ht := Lib.hid ht
  have Ha := Lib.hid ha
  have Hr := Lib.hid hr
  have Hb := Lib.hid hb
  have Hn := Lib.hid hn
  clear ht ha hr hb hn
  go_enter Try.func19, Try.ntmps19
  go_wp2_with fail
  refine (qpFill t a r b n Ht.out Ha.out Hr.out Hb.out Hn.out _).mono ?_; rintro e' w' ⟨rfl, n1, os1, rfl⟩
  go_wp2_with fail
  refine (rMul s 1000000 Hs.out ⟨by omega, by omega⟩ _).mono ?_; rintro e' w' ⟨rfl, rfl⟩
  rw [show mulI s 1000000 = fullI s from rfl]
  go_wp2_with fail
  go_ret
  exact ⟨rfl, by repeat (first | exact Gr.refl _ | apply Gr.drewN | apply Gr.drew | apply Gr.gw | apply Gr.alloc)⟩
set_option maxHeartbeats 1000000 in
theorem qpNextBig (t a r b n s : Int) (ht : W64 t) (ha : W64 a) (hr : W64 r) (hb : W64 b) (hn : W64 n) (hs : W64 s) (h : fillT t a r b n < fullI s) (h2 : fullI b < fullI s) (w : World) :
    Calls Try.prog 19 #[.agg #[.int .u64 t, .int .u64 a, .int .u64 r], .int .u64 b, .int .u64 n, .int .u64 s] w fun e' w' => e' = .returned (.int .u64 (18446744073709551615)) ∧ Gr w w' := by
  have Hs := Lib.hid hs
  have hf0 : fullI s ≤ 18446744073709551615 := (fullI_W hs).2
  have hf1 : 0 ≤ fullI s := (fullI_W hs).1
  have hf2 : fillT t a r b n ≤ 18446744073709551615 := (fillT_W ht ha hr hb hn).2
  have hf3 : 0 ≤ fillT t a r b n := (fillT_W ht ha hr hb hn).1
  clear hs
  have Ht := Lib.hid ht
  have Ha := Lib.hid ha
  have Hr := Lib.hid hr
  have Hb := Lib.hid hb
  have Hn := Lib.hid hn
  clear ht ha hr hb hn
  go_enter Try.func19, Try.ntmps19
  go_wp2_with fail
  refine (qpFill t a r b n Ht.out Ha.out Hr.out Hb.out Hn.out _).mono ?_; rintro e' w' ⟨rfl, n1, os1, rfl⟩
  go_wp2_with fail
  refine (rMul s 1000000 Hs.out ⟨by omega, by omega⟩ _).mono ?_; rintro e' w' ⟨rfl, rfl⟩
  rw [show mulI s 1000000 = fullI s from rfl]
  go_wp2_with fail
  refine (qpFull b Hb.out _).mono ?_; rintro e' w' ⟨rfl, rfl⟩
  go_wp2_with fail
  go_ret
  exact ⟨rfl, by repeat (first | exact Gr.refl _ | apply Gr.drewN | apply Gr.drew | apply Gr.gw | apply Gr.alloc)⟩
set_option maxHeartbeats 1000000 in
theorem qpNextNil (t a r b n s : Int) (ht : W64 t) (ha : W64 a) (hr : W64 r) (hb : W64 b) (hn : W64 n) (hs : W64 s) (h : fillT t a r b n < fullI s) (h2 : fullI s ≤ fullI b) (h3 : r = 0) (w : World) :
    Calls Try.prog 19 #[.agg #[.int .u64 t, .int .u64 a, .int .u64 r], .int .u64 b, .int .u64 n, .int .u64 s] w fun e' w' => e' = .returned (.int .u64 (18446744073709551615)) ∧ Gr w w' := by
  subst h3
  have Hs := Lib.hid hs
  have hf0 : fullI s ≤ 18446744073709551615 := (fullI_W hs).2
  have hf1 : 0 ≤ fullI s := (fullI_W hs).1
  have hf2 : fillT t a 0 b n ≤ 18446744073709551615 := (fillT_W ht ha hr hb hn).2
  have hf3 : 0 ≤ fillT t a 0 b n := (fillT_W ht ha hr hb hn).1
  clear hs
  have Ht := Lib.hid ht
  have Ha := Lib.hid ha
  have Hr := Lib.hid hr
  have Hb := Lib.hid hb
  have Hn := Lib.hid hn
  clear ht ha hr hb hn
  go_enter Try.func19, Try.ntmps19
  go_wp2_with fail
  refine (qpFill t a 0 b n Ht.out Ha.out Hr.out Hb.out Hn.out _).mono ?_; rintro e' w' ⟨rfl, n1, os1, rfl⟩
  go_wp2_with fail
  refine (rMul s 1000000 Hs.out ⟨by omega, by omega⟩ _).mono ?_; rintro e' w' ⟨rfl, rfl⟩
  rw [show mulI s 1000000 = fullI s from rfl]
  go_wp2_with fail
  refine (qpFull b Hb.out _).mono ?_; rintro e' w' ⟨rfl, rfl⟩
  go_wp2_with fail
  go_ret
  exact ⟨rfl, by repeat (first | exact Gr.refl _ | apply Gr.drewN | apply Gr.drew | apply Gr.gw | apply Gr.alloc)⟩
set_option maxHeartbeats 1000000 in
theorem qpNextLater (t a r b n s : Int) (ht : W64 t) (ha : W64 a) (hr : W64 r) (hb : W64 b) (hn : W64 n) (hs : W64 s) (h : fillT t a r b n < fullI s) (h2 : fullI s ≤ fullI b) (h3 : 0 < r) (w : World) :
    Calls Try.prog 19 #[.agg #[.int .u64 t, .int .u64 a, .int .u64 r], .int .u64 b, .int .u64 n, .int .u64 s] w fun e' w' => e' = .returned (.int .u64 (addI (max a n) (upI (fullI s - fillT t a r b n) 1 r))) ∧ Gr w w' := by
  have Hs := Lib.hid hs
  have hf0 : fullI s ≤ 18446744073709551615 := (fullI_W hs).2
  have hf1 : 0 ≤ fullI s := (fullI_W hs).1
  have hf2 : fillT t a r b n ≤ 18446744073709551615 := (fillT_W ht ha hr hb hn).2
  have hf3 : 0 ≤ fillT t a r b n := (fillT_W ht ha hr hb hn).1
  have HU := Lib.hid (upI_W (fullI s - fillT t a r b n) 1 r)
  have HM := Lib.hid (max_W ha hn)
  have HD := Lib.hid (show W64 (fullI s - fillT t a r b n) from Wlit (by omega))
  have h4 : (r == 0) = false := by rw [beq_eq_false_iff_ne]; omega
  clear hs
  have Ht := Lib.hid ht
  have Ha := Lib.hid ha
  have Hr := Lib.hid hr
  have Hb := Lib.hid hb
  have Hn := Lib.hid hn
  clear ht ha hr hb hn
  go_enter Try.func19, Try.ntmps19
  go_wp2_with fail
  refine (qpFill t a r b n Ht.out Ha.out Hr.out Hb.out Hn.out _).mono ?_; rintro e' w' ⟨rfl, n1, os1, rfl⟩
  go_wp2_with fail
  refine (rMul s 1000000 Hs.out ⟨by omega, by omega⟩ _).mono ?_; rintro e' w' ⟨rfl, rfl⟩
  rw [show mulI s 1000000 = fullI s from rfl]
  go_wp2_with fail
  refine (qpFull b Hb.out _).mono ?_; rintro e' w' ⟨rfl, rfl⟩
  go_wp2_with fail
  have hw : IntKind.u64.wrap (fullI s - fillT t a r b n) = fullI s - fillT t a r b n := by rw [IntKind.wrap_u64]; omega
  go_region_held3 (fun w' => w'.cell? ⟨w.heap.size, 0, none⟩ = some (.int .u64 (fillT t a r b n)) ∧ w'.cell? ⟨w.heap.size, 1, none⟩ = some (.int .u64 (max a n)) ∧ w'.cell? ⟨w.heap.size, 2, none⟩ = some (.int .u64 r)) (first | go_simp | go_keep)
    (first
      | (go_at_call 40; ((with_reducible refine (rUpG (fullI s - fillT t a r b n) 1 r HD.out (Wlit (by omega)) Hr.out _).mono ?_); rintro e' w' ⟨rfl, n2, os2, rfl⟩))
      | (go_at_call 39; ((with_reducible refine (rAdd (max a n) (upI (fullI s - fillT t a r b n) 1 r) HM.out HU.out _).mono ?_); rintro e' w' ⟨rfl, rfl⟩)))
  go_wp2_with fail
  go_ret
  exact ⟨rfl, by repeat (first | exact Gr.refl _ | apply Gr.drewN | apply Gr.drew | apply Gr.gw | apply Gr.alloc)⟩
set_option maxHeartbeats 1000000 in
theorem pcRate (c s x : Int) (hc : W64 c) (hs : W64 s) (hx : W64 x) (w : World) :
    Calls Try.prog 33 #[.int .u64 c, .int .u64 s, .int .u64 x] w fun e' w' => e' = .returned (.int .u64 (min (max (downI c 1250000 (max s 1)) x) 4294967296)) ∧ Gr w w' := by
  have Hc := Lib.hid hc
  have HS := Lib.hid (max_W hs (show W64 1 from ⟨by omega, by omega⟩))
  have hx0 : 0 ≤ x := hx.1
  clear hc hs hx
  go_enter Try.func33, Try.ntmps33
  go_wp2_with fail
  refine (wDown c 1250000 (max s 1) Hc.out ⟨by omega, by omega⟩ HS.out _).mono ?_; rintro e' w' ⟨rfl, n1, rfl⟩
  go_wp2_with fail
  go_ret
  exact ⟨rfl, by repeat (first | exact Gr.refl _ | apply Gr.drewN | apply Gr.drew | apply Gr.gw | apply Gr.alloc)⟩
set_option maxHeartbeats 1000000 in
theorem pcStart (b n r : Int) (hb : W64 b) (w : World) :
    Calls Try.prog 21 #[.int .u64 b, .int .u64 n, .int .u64 r] w fun e' w' => e' = .returned (.agg #[.int .u64 (fullI b), .int .u64 n, .int .u64 (min r 4294967296)]) ∧ Gr w w' := by
  have Hb := Lib.hid hb
  clear hb
  go_enter Try.func21, Try.ntmps21
  go_wp2_with fail
  refine (pcFull b Hb.out _).mono ?_; rintro e' w' ⟨rfl, rfl⟩
  go_wp2_with fail
  refine bodyPost_ret (v := .agg #[.int .u64 (fullI b), .int .u64 n, .int .u64 (min r 4294967296)]) (by simp [results, Try.results21, go_sem]) rfl ⟨rfl, ?_⟩
  repeat (first | exact Gr.refl _ | apply Gr.drewN | apply Gr.drew | apply Gr.gw | apply Gr.alloc)
set_option maxHeartbeats 1000000 in
theorem pcSet (t a r b n x : Int) (ht : W64 t) (ha : W64 a) (hr : W64 r) (hb : W64 b) (hn : W64 n) (w : World) :
    Calls Try.prog 22 #[.agg #[.int .u64 t, .int .u64 a, .int .u64 r], .int .u64 b, .int .u64 n, .int .u64 x] w fun e' w' => e' = .returned (.agg #[.int .u64 (fillT t a r b n), .int .u64 (max a n), .int .u64 (min x 4294967296)]) ∧ Gr w w' := by
  have Ht := Lib.hid ht
  have Ha := Lib.hid ha
  have Hr := Lib.hid hr
  have Hb := Lib.hid hb
  have Hn := Lib.hid hn
  clear ht ha hr hb hn
  go_enter Try.func22, Try.ntmps22
  go_wp2_with fail
  refine (pcFill t a r b n Ht.out Ha.out Hr.out Hb.out Hn.out _).mono ?_; rintro e' w' ⟨rfl, n1, os1, rfl⟩
  go_wp2_with fail
  refine bodyPost_ret (v := .agg #[.int .u64 (fillT t a r b n), .int .u64 (max a n), .int .u64 (min x 4294967296)]) (by simp [results, Try.results22, go_sem]) rfl ⟨rfl, ?_⟩
  repeat (first | exact Gr.refl _ | apply Gr.drewN | apply Gr.drew | apply Gr.gw | apply Gr.alloc)
/-- what is left in the bucket, and whether it went -/
def takeT (t a r b n s : Int) : Int := if fullI s ≤ fillT t a r b n then fillT t a r b n - fullI s else fillT t a r b n
def takeB (t a r b n s : Int) : Bool := decide (fullI s ≤ fillT t a r b n)
theorem takeT_W {t a r b n s : Int} (ht : W64 t) (ha : W64 a) (hr : W64 r) (hb : W64 b) (hn : W64 n) (hs : W64 s) : W64 (takeT t a r b n s) := by
  have h1 := fillT_W ht ha hr hb hn
  have h2 := fullI_W hs
  unfold takeT W64 at *
  split <;> omega
theorem ret_take {t t' a r : Int} {b b' : Bool} (h : t = t') (h' : b = b') : Ending.returned (.tuple #[.agg #[.int .u64 t, .int .u64 a, .int .u64 r], .bool b]) = .returned (.tuple #[.agg #[.int .u64 t', .int .u64 a, .int .u64 r], .bool b']) := by rw [h, h']
set_option maxHeartbeats 1000000 in
theorem pcTake (t a r b n s : Int) (ht : W64 t) (ha : W64 a) (hr : W64 r) (hb : W64 b) (hn : W64 n) (hs : W64 s) (w : World) :
    Calls Try.prog 16 #[.agg #[.int .u64 t, .int .u64 a, .int .u64 r], .int .u64 b, .int .u64 n, .int .u64 s] w fun e' w' => e' = .returned (.tuple #[.agg #[.int .u64 (takeT t a r b n s), .int .u64 (max a n), .int .u64 r], .bool (takeB t a r b n s)]) ∧ Gr w w' := by
  by_cases h : fullI s ≤ fillT t a r b n
  · exact (pcTakeYes t a r b n s ht ha hr hb hn hs h w).mono fun e w' H => ⟨H.1.trans (ret_take (by unfold takeT; rw [if_pos h]) (by unfold takeB; simp [h])), H.2⟩
  · exact (pcTakeNo t a r b n s ht ha hr hb hn hs (by omega) w).mono fun e w' H => ⟨H.1.trans (ret_take (by unfold takeT; rw [if_neg h]) (by unfold takeB; simp [h])), H.2⟩
set_option maxHeartbeats 1000000 in
theorem qpTake (t a r b n s : Int) (ht : W64 t) (ha : W64 a) (hr : W64 r) (hb : W64 b) (hn : W64 n) (hs : W64 s) (w : World) :
    Calls Try.prog 17 #[.agg #[.int .u64 t, .int .u64 a, .int .u64 r], .int .u64 b, .int .u64 n, .int .u64 s] w fun e' w' => e' = .returned (.tuple #[.agg #[.int .u64 (takeT t a r b n s), .int .u64 (max a n), .int .u64 r], .bool (takeB t a r b n s)]) ∧ Gr w w' := by
  by_cases h : fullI s ≤ fillT t a r b n
  · exact (qpTakeYes t a r b n s ht ha hr hb hn hs h w).mono fun e w' H => ⟨H.1.trans (ret_take (by unfold takeT; rw [if_pos h]) (by unfold takeB; simp [h])), H.2⟩
  · exact (qpTakeNo t a r b n s ht ha hr hb hn hs (by omega) w).mono fun e w' H => ⟨H.1.trans (ret_take (by unfold takeT; rw [if_neg h]) (by unfold takeB; simp [h])), H.2⟩
set_option maxHeartbeats 1000000 in
theorem pcNext (t a r b n s : Int) (ht : W64 t) (ha : W64 a) (hr : W64 r) (hb : W64 b) (hn : W64 n) (hs : W64 s) (w : World) :
    Calls Try.prog 18 #[.agg #[.int .u64 t, .int .u64 a, .int .u64 r], .int .u64 b, .int .u64 n, .int .u64 s] w fun e' w' => e' = .returned (.int .u64 (nextI t a r b n s)) ∧ Gr w w' := by
  have r0 := hr.1
  by_cases h : fullI s ≤ fillT t a r b n
  · exact (pcNextNow t a r b n s ht ha hr hb hn hs h w).mono fun e w' H => ⟨H.1.trans (ret_int (by unfold nextI; rw [if_pos h])), H.2⟩
  · by_cases h2 : fullI b < fullI s
    · exact (pcNextBig t a r b n s ht ha hr hb hn hs (by omega) h2 w).mono fun e w' H => ⟨H.1.trans (ret_int (by unfold nextI; rw [if_neg h, if_pos (.inl h2)])), H.2⟩
    · by_cases h3 : r = 0
      · exact (pcNextNil t a r b n s ht ha hr hb hn hs (by omega) (by omega) h3 w).mono fun e w' H => ⟨H.1.trans (ret_int (by unfold nextI; rw [if_neg h, if_pos (.inr h3)])), H.2⟩
      · exact (pcNextLater t a r b n s ht ha hr hb hn hs (by omega) (by omega) (by omega) w).mono fun e w' H => ⟨H.1.trans (ret_int (by unfold nextI; rw [if_neg h, if_neg (by omega)])), H.2⟩
set_option maxHeartbeats 1000000 in
theorem qpNext (t a r b n s : Int) (ht : W64 t) (ha : W64 a) (hr : W64 r) (hb : W64 b) (hn : W64 n) (hs : W64 s) (w : World) :
    Calls Try.prog 19 #[.agg #[.int .u64 t, .int .u64 a, .int .u64 r], .int .u64 b, .int .u64 n, .int .u64 s] w fun e' w' => e' = .returned (.int .u64 (nextI t a r b n s)) ∧ Gr w w' := by
  have r0 := hr.1
  by_cases h : fullI s ≤ fillT t a r b n
  · exact (qpNextNow t a r b n s ht ha hr hb hn hs h w).mono fun e w' H => ⟨H.1.trans (ret_int (by unfold nextI; rw [if_pos h])), H.2⟩
  · by_cases h2 : fullI b < fullI s
    · exact (qpNextBig t a r b n s ht ha hr hb hn hs (by omega) h2 w).mono fun e w' H => ⟨H.1.trans (ret_int (by unfold nextI; rw [if_neg h, if_pos (.inl h2)])), H.2⟩
    · by_cases h3 : r = 0
      · exact (qpNextNil t a r b n s ht ha hr hb hn hs (by omega) (by omega) h3 w).mono fun e w' H => ⟨H.1.trans (ret_int (by unfold nextI; rw [if_neg h, if_pos (.inr h3)])), H.2⟩
      · exact (qpNextLater t a r b n s ht ha hr hb hn hs (by omega) (by omega) (by omega) w).mono fun e w' H => ⟨H.1.trans (ret_int (by unfold nextI; rw [if_neg h, if_neg (by omega)])), H.2⟩
end Go.Proofs.Ytanebjapcpbdnaa
