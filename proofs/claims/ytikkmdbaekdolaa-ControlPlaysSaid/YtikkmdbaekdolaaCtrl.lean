/- package control, and the reference's: cut. -/
import Derived.Test.YtikkmdbaekdolaaCubic
import Derived.Test.YtikkmdbaekdolaaReno
import Derived.Test.YtikkmdbaekdolaaRound
import Derived.Test.YtikkmdbaekdolaaRow
namespace Go.Proofs.Ytikkmdbaekdolaa
open Go.RowKit Go.Lib
set_option linter.unusedVariables false
set_option maxRecDepth 100000

/-- the window behind a cut -/
def cuV (al n d cn cd c : Int) : Int := if al = 2 then downI c cn cd else downI c n d
def cuC (al lo hi n d cn cd c : Int) : Int := clampI (cuV al n d cn cd c) lo hi
def cuT (al lo n d cn cd c : Int) : Int := max (cuV al n d cn cd c) lo
def cuP (al c p : Int) : Int := if al = 2 then cutP c p else p
def cuE (al e : Int) : Int := if al = 2 then 18446744073709551615 else e
def cuZ (al k : Int) : Int := if al = 2 then 0 else k

set_option maxHeartbeats 1000000 in
theorem ctCut1 (x0 x1 x2 x3 x4 x5 x6 x7 x8 x10 x11 x12 x13 x14 x15 x16 c t a p e k f n d n2 d2 : Int) (hc : W64 c) (hn : W64 n) (hd : W64 d) (hn2 : W64 n2) (hd2 : W64 d2) (w : World) :
    Calls Try.prog 63 #[.agg #[.int .i64 x0, .int .u64 x1, .int .i64 x2, .int .u64 x3, .int .i64 x4, .int .u64 x5, .int .u64 x6, .int .u64 x7, .int .u64 x8, .int .i64 1, .int .u64 x10, .int .u64 x11, .int .u64 x12, .int .u64 x13, .int .u64 x14, .int .i64 x15, .int .u64 x16], .agg #[.int .u64 c, .int .u64 t, .int .u64 a, .int .u64 p, .int .u64 e, .int .u64 k, .int .u64 f], .int .u64 n, .int .u64 d, .int .u64 n2, .int .u64 d2] w fun e' w' => e' = .returned (.agg #[.int .u64 (clampI (downI c n d) x7 x8), .int .u64 (max (downI c n d) x7), .int .u64 0, .int .u64 p, .int .u64 e, .int .u64 k, .int .u64 f]) ∧ Gr w w' := by
  have Hc := Lib.hid hc
  have Hn := Lib.hid hn
  have Hd := Lib.hid hd
  have Hn2 := Lib.hid hn2
  have Hd2 := Lib.hid hd2
  clear hc hn hd hn2 hd2
  go_enter Try.func63, Try.ntmps63
  go_wp2_with fail
  refine (nCut c t a p e k f n d Hc.out Hn.out Hd.out _).mono ?_; rintro e' w1 ⟨rfl, n1, os1, rfl⟩
  go_wp2_with fail
  refine (sClamp _ _ _ _).mono ?_; rintro e' w1 ⟨rfl, rfl⟩
  go_wp2_with fail
  refine bodyPost_ret (v := .agg #[.int .u64 (clampI (downI c n d) x7 x8), .int .u64 (max (downI c n d) x7), .int .u64 0, .int .u64 p, .int .u64 e, .int .u64 k, .int .u64 f]) (by simp [results, Try.results63, go_sem]) rfl ⟨rfl, ?_⟩
  repeat (first | exact Gr.refl _ | apply Gr.drewN | apply Gr.drew | apply Gr.gw | apply Gr.alloc)

set_option maxHeartbeats 1000000 in
theorem ctCut2 (x0 x1 x2 x3 x4 x5 x6 x7 x8 x10 x11 x12 x13 x14 x15 x16 c t a p e k f n d n2 d2 : Int) (hc : W64 c) (hn : W64 n) (hd : W64 d) (hn2 : W64 n2) (hd2 : W64 d2) (w : World) :
    Calls Try.prog 63 #[.agg #[.int .i64 x0, .int .u64 x1, .int .i64 x2, .int .u64 x3, .int .i64 x4, .int .u64 x5, .int .u64 x6, .int .u64 x7, .int .u64 x8, .int .i64 2, .int .u64 x10, .int .u64 x11, .int .u64 x12, .int .u64 x13, .int .u64 x14, .int .i64 x15, .int .u64 x16], .agg #[.int .u64 c, .int .u64 t, .int .u64 a, .int .u64 p, .int .u64 e, .int .u64 k, .int .u64 f], .int .u64 n, .int .u64 d, .int .u64 n2, .int .u64 d2] w fun e' w' => e' = .returned (.agg #[.int .u64 (clampI (downI c n2 d2) x7 x8), .int .u64 (max (downI c n2 d2) x7), .int .u64 0, .int .u64 (cutP c p), .int .u64 18446744073709551615, .int .u64 0, .int .u64 0]) ∧ Gr w w' := by
  have Hc := Lib.hid hc
  have Hn := Lib.hid hn
  have Hd := Lib.hid hd
  have Hn2 := Lib.hid hn2
  have Hd2 := Lib.hid hd2
  clear hc hn hd hn2 hd2
  go_enter Try.func63, Try.ntmps63
  go_wp2_with fail
  refine (tCut c t a p e k f n2 d2 Hc.out Hn2.out Hd2.out _).mono ?_; rintro e' w1 ⟨rfl, n1, os1, rfl⟩
  go_wp2_with fail
  refine (sClamp _ _ _ _).mono ?_; rintro e' w1 ⟨rfl, rfl⟩
  go_wp2_with fail
  refine bodyPost_ret (v := .agg #[.int .u64 (clampI (downI c n2 d2) x7 x8), .int .u64 (max (downI c n2 d2) x7), .int .u64 0, .int .u64 (cutP c p), .int .u64 18446744073709551615, .int .u64 0, .int .u64 0]) (by simp [results, Try.results63, go_sem]) rfl ⟨rfl, ?_⟩
  repeat (first | exact Gr.refl _ | apply Gr.drewN | apply Gr.drew | apply Gr.gw | apply Gr.alloc)

set_option maxHeartbeats 1000000 in
theorem qtCut1 (x0 x1 x2 x3 x4 x5 x6 x7 x8 x10 x11 x12 x13 x14 x15 x16 c t a p e k f n n2 : Int) (hc : W64 c) (hn : W64 n) (hn2 : W64 n2) (w : World) :
    Calls Try.prog 61 #[.agg #[.int .i64 x0, .int .u64 x1, .int .i64 x2, .int .u64 x3, .int .i64 x4, .int .u64 x5, .int .u64 x6, .int .u64 x7, .int .u64 x8, .int .i64 1, .int .u64 x10, .int .u64 x11, .int .u64 x12, .int .u64 x13, .int .u64 x14, .int .i64 x15, .int .u64 x16], .agg #[.int .u64 c, .int .u64 t, .int .u64 a, .int .u64 p, .int .u64 e, .int .u64 k, .int .u64 f], .int .u64 n, .int .u64 n2] w fun e' w' => e' = .returned (.agg #[.int .u64 (clampI (downI c n 20) x7 x8), .int .u64 (max (downI c n 20) x7), .int .u64 0, .int .u64 p, .int .u64 e, .int .u64 k, .int .u64 f]) ∧ Gr w w' := by
  have Hc := Lib.hid hc
  have Hn := Lib.hid hn
  have Hn2 := Lib.hid hn2
  clear hc hn hn2
  go_enter Try.func61, Try.ntmps61
  go_wp2_with fail
  refine (qCut c t a p e k f n 20 Hc.out Hn.out (Wlit (by omega)) _).mono ?_; rintro e' w1 ⟨rfl, n1, os1, rfl⟩
  go_wp2_with fail
  refine (rClamp _ _ _ _).mono ?_; rintro e' w1 ⟨rfl, rfl⟩
  go_wp2_with fail
  refine bodyPost_ret (v := .agg #[.int .u64 (clampI (downI c n 20) x7 x8), .int .u64 (max (downI c n 20) x7), .int .u64 0, .int .u64 p, .int .u64 e, .int .u64 k, .int .u64 f]) (by simp [results, Try.results61, go_sem]) rfl ⟨rfl, ?_⟩
  repeat (first | exact Gr.refl _ | apply Gr.drewN | apply Gr.drew | apply Gr.gw | apply Gr.alloc)

set_option maxHeartbeats 1000000 in
theorem qtCut2 (x0 x1 x2 x3 x4 x5 x6 x7 x8 x10 x11 x12 x13 x14 x15 x16 c t a p e k f n n2 : Int) (hc : W64 c) (hn : W64 n) (hn2 : W64 n2) (w : World) :
    Calls Try.prog 61 #[.agg #[.int .i64 x0, .int .u64 x1, .int .i64 x2, .int .u64 x3, .int .i64 x4, .int .u64 x5, .int .u64 x6, .int .u64 x7, .int .u64 x8, .int .i64 2, .int .u64 x10, .int .u64 x11, .int .u64 x12, .int .u64 x13, .int .u64 x14, .int .i64 x15, .int .u64 x16], .agg #[.int .u64 c, .int .u64 t, .int .u64 a, .int .u64 p, .int .u64 e, .int .u64 k, .int .u64 f], .int .u64 n, .int .u64 n2] w fun e' w' => e' = .returned (.agg #[.int .u64 (clampI (downI c n2 20) x7 x8), .int .u64 (max (downI c n2 20) x7), .int .u64 0, .int .u64 (cutP c p), .int .u64 18446744073709551615, .int .u64 0, .int .u64 0]) ∧ Gr w w' := by
  have Hc := Lib.hid hc
  have Hn := Lib.hid hn
  have Hn2 := Lib.hid hn2
  clear hc hn hn2
  go_enter Try.func61, Try.ntmps61
  go_wp2_with fail
  refine (rCut c t a p e k f n2 20 Hc.out Hn2.out (Wlit (by omega)) _).mono ?_; rintro e' w1 ⟨rfl, n1, os1, rfl⟩
  go_wp2_with fail
  refine (rClamp _ _ _ _).mono ?_; rintro e' w1 ⟨rfl, rfl⟩
  go_wp2_with fail
  refine bodyPost_ret (v := .agg #[.int .u64 (clampI (downI c n2 20) x7 x8), .int .u64 (max (downI c n2 20) x7), .int .u64 0, .int .u64 (cutP c p), .int .u64 18446744073709551615, .int .u64 0, .int .u64 0]) (by simp [results, Try.results61, go_sem]) rfl ⟨rfl, ?_⟩
  repeat (first | exact Gr.refl _ | apply Gr.drewN | apply Gr.drew | apply Gr.gw | apply Gr.alloc)

end Go.Proofs.Ytikkmdbaekdolaa
