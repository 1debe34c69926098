/- cubic.Grow, and the reference's: a window that grows by what was acknowledged, and by time. -/
import Derived.Test.YtikkmdbaekdolaaCubic
import Derived.Deep.RegionWith
namespace Go.Proofs.Ytikkmdbaekdolaa
open Go.RowKit Go.Lib
set_option linter.unusedVariables false
set_option maxRecDepth 100000

/-- what the curve aims at, half of a window more at most -/
def grAim (c p e k m n s : Int) : Int := max (min (atI p k (addI (subI n e) s) m) (downI c 3 2)) c
def grC (c p e k ak m n s : Int) : Int := addI c (downI (grAim c p e k m n s - c) ak c)
def grMore (c p f ak m : Int) : Int := if f < p then downI (downI m ak c) 9 17 else downI m ak c
def grF (c p f ak m : Int) : Int := addI f (grMore c p f ak m)
theorem grAim_W (c p e k m n s : Int) (hc : W64 c) (hp : W64 p) : W64 (grAim c p e k m n s) := by
  have h1 := atI_W p k (addI (subI n e) s) m hp
  have h2 := downI_W c 3 2
  unfold grAim W64 at *
  omega
theorem grC_W (c p e k ak m n s : Int) (hc : W64 c) : W64 (grC c p e k ak m n s) := addI_W _ _ hc (downI_W _ _ _)
theorem grMore_W (c p f ak m : Int) : W64 (grMore c p f ak m) := by
  unfold grMore
  split <;> exact downI_W _ _ _
theorem grF_W (c p f ak m : Int) (hf : W64 f) : W64 (grF c p f ak m) := addI_W _ _ hf (grMore_W _ _ _ _ _)
set_option maxHeartbeats 1000000 in
theorem tGrowSlow (c t a p e k f ak m n s : Int) (hc : W64 c) (hp : W64 p) (he : W64 e) (hk : W64 k) (hf : W64 f) (hak : W64 ak) (hm : W64 m) (hn : W64 n) (hs : W64 s) (h : c < t) (w : World) :
    Calls Try.prog 70 #[.agg #[.int .u64 c, .int .u64 t, .int .u64 a, .int .u64 p, .int .u64 e, .int .u64 k, .int .u64 f], .int .u64 ak, .int .u64 m, .int .u64 n, .int .u64 s] w fun e' w' => e' = .returned (.agg #[.int .u64 (slowI c ak m), .int .u64 (t), .int .u64 (a), .int .u64 (p), .int .u64 (e), .int .u64 (k), .int .u64 (f)]) ∧ Gr w w' := by
  have Hc := Lib.hid hc
  have Hp := Lib.hid hp
  have He := Lib.hid he
  have Hk := Lib.hid hk
  have Hf := Lib.hid hf
  have Hak := Lib.hid hak
  have Hm := Lib.hid hm
  have Hn := Lib.hid hn
  have Hs := Lib.hid hs
  clear hc hp he hk hf hak hm hn hs
  go_enter Try.func70, Try.ntmps70
  go_wp2_with fail
  ((with_reducible refine (nSlow c t a p e k f ak m Hc.out Hak.out Hm.out _).mono ?_); rintro e' w' ⟨rfl, n1, os1, rfl⟩)
  go_wp2_with fail
  refine bodyPost_ret (v := .agg #[.int .u64 (slowI c ak m), .int .u64 (t), .int .u64 (a), .int .u64 (p), .int .u64 (e), .int .u64 (k), .int .u64 (f)]) (by simp [results, Try.results70, go_sem]) rfl ⟨rfl, ?_⟩
  repeat (first | exact Gr.refl _ | apply Gr.drewN | apply Gr.drew | apply Gr.gw | apply Gr.alloc)
set_option maxHeartbeats 1000000 in
theorem tGrowOldZero (c t a p e k f ak m n s : Int) (hc : W64 c) (hp : W64 p) (he : W64 e) (hk : W64 k) (hf : W64 f) (hak : W64 ak) (hm : W64 m) (hn : W64 n) (hs : W64 s) (h : t ≤ 0) (h1 : (e == 18446744073709551615) = false) (h2 : c = 0) (w : World) :
    Calls Try.prog 70 #[.agg #[.int .u64 c, .int .u64 t, .int .u64 a, .int .u64 p, .int .u64 e, .int .u64 k, .int .u64 f], .int .u64 ak, .int .u64 m, .int .u64 n, .int .u64 s] w fun e' w' => e' = .returned (.agg #[.int .u64 (0), .int .u64 (t), .int .u64 (a), .int .u64 (p), .int .u64 (e), .int .u64 (k), .int .u64 (f)]) ∧ Gr w w' := by
  subst h2
  have Hc := Lib.hid hc
  have Hp := Lib.hid hp
  have He := Lib.hid he
  have Hk := Lib.hid hk
  have Hf := Lib.hid hf
  have Hak := Lib.hid hak
  have Hm := Lib.hid hm
  have Hn := Lib.hid hn
  have Hs := Lib.hid hs
  clear hc hp he hk hf hak hm hn hs
  go_enter Try.func70, Try.ntmps70
  go_wp2_with fail
  refine bodyPost_ret (v := .agg #[.int .u64 (0), .int .u64 (t), .int .u64 (a), .int .u64 (p), .int .u64 (e), .int .u64 (k), .int .u64 (f)]) (by simp [results, Try.results70, go_sem]) rfl ⟨rfl, ?_⟩
  repeat (first | exact Gr.refl _ | apply Gr.drewN | apply Gr.drew | apply Gr.gw | apply Gr.alloc)
set_option maxHeartbeats 1000000 in
theorem tGrowOldLo (c t a p e k f ak m n s : Int) (hc : W64 c) (hp : W64 p) (he : W64 e) (hk : W64 k) (hf : W64 f) (hak : W64 ak) (hm : W64 m) (hn : W64 n) (hs : W64 s) (h : t ≤ c) (h1 : (e == 18446744073709551615) = false) (h2 : 0 < c) (h3 : f < p) (w : World) :
    Calls Try.prog 70 #[.agg #[.int .u64 c, .int .u64 t, .int .u64 a, .int .u64 p, .int .u64 e, .int .u64 k, .int .u64 f], .int .u64 ak, .int .u64 m, .int .u64 n, .int .u64 s] w fun e' w' => e' = .returned (.agg #[.int .u64 (max (grC c (p) (e) (k) ak m n s) (grF c (p) (f) ak m)), .int .u64 (t), .int .u64 (a), .int .u64 (p), .int .u64 (e), .int .u64 (k), .int .u64 (grF c (p) (f) ak m)]) ∧ Gr w w' := by
  have h2b : (c == 0) = false := by rw [beq_eq_false_iff_ne]; omega
  have hP : W64 (p) := by unfold W64 at *; omega
  have hE : W64 (e) := he
  have hK : W64 (k) := hk
  have hF : W64 (f) := hf
  have A1 := Lib.hid (subI_W n (e) hn hE)
  have A2 := Lib.hid (addI_W (subI n (e)) s A1.out hs)
  have A3 := Lib.hid (atI_W (p) (k) (addI (subI n (e)) s) m hP)
  have B1 := Lib.hid (grAim_W c (p) (e) (k) m n s hc hP)
  have HPn := Lib.hid hP
  have HEn := Lib.hid hE
  have HKn := Lib.hid hK
  have HFn := Lib.hid hF
  have D1 := Lib.hid (downI_W (grAim c (p) (e) (k) m n s - c) ak c)
  have D2 := Lib.hid (downI_W m ak c)
  have D3 := Lib.hid (downI_W (downI m ak c) 9 17)
  have D4 := Lib.hid (downI_W c 3 2)
  have b2 : grAim c (p) (e) (k) m n s ≤ 18446744073709551615 := B1.out.2
  have b3 : c ≤ grAim c (p) (e) (k) m n s := by unfold grAim; omega
  have B4 := Lib.hid (show W64 (grAim c (p) (e) (k) m n s - c) from Wlit (by have := hc.1; omega))
  have EA : Hid (max (min (atI (p) (k) (addI (subI n (e)) s) m) (downI c 3 2)) c = grAim c (p) (e) (k) m n s) := rfl
  have EA' : Hid (max c (min (atI (p) (k) (addI (subI n (e)) s) m) (downI c 3 2)) = grAim c (p) (e) (k) m n s) := by show _ = _; unfold grAim; omega
  have EC : Hid (addI c (downI (grAim c (p) (e) (k) m n s - c) ak c) = grC c (p) (e) (k) ak m n s) := rfl
  have EF : Hid (addI (f) (downI (downI m ak c) 9 17) = grF c (p) (f) ak m) := by show _ = _; unfold grF grMore; rw [if_pos (by omega)]
  have hc0 : 0 ≤ c := hc.1
  have hw : IntKind.u64.wrap (grAim c (p) (e) (k) m n s - c) = grAim c (p) (e) (k) m n s - c := by rw [IntKind.wrap_u64]; have := B4.out; unfold W64 at this; omega
  have HW := Lib.hid hw
  clear hP hE hK hF hw
  have Hc := Lib.hid hc
  have Hp := Lib.hid hp
  have He := Lib.hid he
  have Hk := Lib.hid hk
  have Hf := Lib.hid hf
  have Hak := Lib.hid hak
  have Hm := Lib.hid hm
  have Hn := Lib.hid hn
  have Hs := Lib.hid hs
  clear hc hp he hk hf hak hm hn hs
  go_enter Try.func70, Try.ntmps70
  go_wp2_with fail
  go_quiet ((first
    | (go_at_call 109; first | exact qS' (kSince n (e) Hn.out HEn.out _) | exact qS (kSince n (e) Hn.out HEn.out _))
    | (go_at_call 66; first | exact qS' (kAfter (subI n (e)) s A1.out Hs.out _) | exact qS (kAfter (subI n (e)) s A1.out Hs.out _))
    | (go_at_call 108; first | exact qD' (tAt (p) (k) (addI (subI n (e)) s) m HPn.out HKn.out A2.out Hm.out _) | exact qD (tAt (p) (k) (addI (subI n (e)) s) m HPn.out HKn.out A2.out Hm.out _))))
  go_wp2_with fail
  ((with_reducible refine (wDown c 3 2 Hc.out (Wlit (by omega)) (Wlit (by omega)) _).mono ?_); rintro e' w' ⟨rfl, n2, rfl⟩)
  go_wp2_with fail
  rw [EA.out, HW.out]
  ((with_reducible refine (wDown (grAim c (p) (e) (k) m n s - c) ak c B4.out Hak.out Hc.out _).mono ?_); rintro e' w' ⟨rfl, n3, rfl⟩)
  go_wp2_with fail
  ((with_reducible refine (sAdd c (downI (grAim c (p) (e) (k) m n s - c) ak c) Hc.out D1.out _).mono ?_); rintro e' w' ⟨rfl, rfl⟩)
  rw [EC.out]
  go_wp2_with fail
  ((with_reducible refine (wDown m ak c Hm.out Hak.out Hc.out _).mono ?_); rintro e' w' ⟨rfl, n5, rfl⟩)
  go_wp2_with fail
  ((with_reducible refine (wDown (downI m ak c) 9 17 D2.out (Wlit (by omega)) (Wlit (by omega)) _).mono ?_); rintro e' w' ⟨rfl, n6, rfl⟩)
  go_wp2_with fail
  ((with_reducible refine (sAdd (f) (downI (downI m ak c) 9 17) HFn.out D3.out _).mono ?_); rintro e' w' ⟨rfl, rfl⟩)
  rw [EF.out]
  go_wp2_with fail
  refine bodyPost_ret (v := .agg #[.int .u64 (max (grC c (p) (e) (k) ak m n s) (grF c (p) (f) ak m)), .int .u64 (t), .int .u64 (a), .int .u64 (p), .int .u64 (e), .int .u64 (k), .int .u64 (grF c (p) (f) ak m)]) (by simp [results, Try.results70, go_sem]) rfl ⟨rfl, ?_⟩
  repeat (first | exact Gr.refl _ | apply Gr.drewN | apply Gr.drew | apply Gr.gw | apply Gr.alloc)
set_option maxHeartbeats 1000000 in
theorem tGrowOldHi (c t a p e k f ak m n s : Int) (hc : W64 c) (hp : W64 p) (he : W64 e) (hk : W64 k) (hf : W64 f) (hak : W64 ak) (hm : W64 m) (hn : W64 n) (hs : W64 s) (h : t ≤ c) (h1 : (e == 18446744073709551615) = false) (h2 : 0 < c) (h3 : p ≤ f) (w : World) :
    Calls Try.prog 70 #[.agg #[.int .u64 c, .int .u64 t, .int .u64 a, .int .u64 p, .int .u64 e, .int .u64 k, .int .u64 f], .int .u64 ak, .int .u64 m, .int .u64 n, .int .u64 s] w fun e' w' => e' = .returned (.agg #[.int .u64 (max (grC c (p) (e) (k) ak m n s) (grF c (p) (f) ak m)), .int .u64 (t), .int .u64 (a), .int .u64 (p), .int .u64 (e), .int .u64 (k), .int .u64 (grF c (p) (f) ak m)]) ∧ Gr w w' := by
  have h2b : (c == 0) = false := by rw [beq_eq_false_iff_ne]; omega
  have hP : W64 (p) := by unfold W64 at *; omega
  have hE : W64 (e) := he
  have hK : W64 (k) := hk
  have hF : W64 (f) := hf
  have A1 := Lib.hid (subI_W n (e) hn hE)
  have A2 := Lib.hid (addI_W (subI n (e)) s A1.out hs)
  have A3 := Lib.hid (atI_W (p) (k) (addI (subI n (e)) s) m hP)
  have B1 := Lib.hid (grAim_W c (p) (e) (k) m n s hc hP)
  have HPn := Lib.hid hP
  have HEn := Lib.hid hE
  have HKn := Lib.hid hK
  have HFn := Lib.hid hF
  have D1 := Lib.hid (downI_W (grAim c (p) (e) (k) m n s - c) ak c)
  have D2 := Lib.hid (downI_W m ak c)
  have D3 := Lib.hid (downI_W (downI m ak c) 9 17)
  have D4 := Lib.hid (downI_W c 3 2)
  have b2 : grAim c (p) (e) (k) m n s ≤ 18446744073709551615 := B1.out.2
  have b3 : c ≤ grAim c (p) (e) (k) m n s := by unfold grAim; omega
  have B4 := Lib.hid (show W64 (grAim c (p) (e) (k) m n s - c) from Wlit (by have := hc.1; omega))
  have EA : Hid (max (min (atI (p) (k) (addI (subI n (e)) s) m) (downI c 3 2)) c = grAim c (p) (e) (k) m n s) := rfl
  have EA' : Hid (max c (min (atI (p) (k) (addI (subI n (e)) s) m) (downI c 3 2)) = grAim c (p) (e) (k) m n s) := by show _ = _; unfold grAim; omega
  have EC : Hid (addI c (downI (grAim c (p) (e) (k) m n s - c) ak c) = grC c (p) (e) (k) ak m n s) := rfl
  have EF : Hid (addI (f) (downI m ak c) = grF c (p) (f) ak m) := by show _ = _; unfold grF grMore; rw [if_neg (by omega)]
  have hc0 : 0 ≤ c := hc.1
  have hw : IntKind.u64.wrap (grAim c (p) (e) (k) m n s - c) = grAim c (p) (e) (k) m n s - c := by rw [IntKind.wrap_u64]; have := B4.out; unfold W64 at this; omega
  have HW := Lib.hid hw
  clear hP hE hK hF hw
  have Hc := Lib.hid hc
  have Hp := Lib.hid hp
  have He := Lib.hid he
  have Hk := Lib.hid hk
  have Hf := Lib.hid hf
  have Hak := Lib.hid hak
  have Hm := Lib.hid hm
  have Hn := Lib.hid hn
  have Hs := Lib.hid hs
  clear hc hp he hk hf hak hm hn hs
  go_enter Try.func70, Try.ntmps70
  go_wp2_with fail
  go_quiet ((first
    | (go_at_call 109; first | exact qS' (kSince n (e) Hn.out HEn.out _) | exact qS (kSince n (e) Hn.out HEn.out _))
    | (go_at_call 66; first | exact qS' (kAfter (subI n (e)) s A1.out Hs.out _) | exact qS (kAfter (subI n (e)) s A1.out Hs.out _))
    | (go_at_call 108; first | exact qD' (tAt (p) (k) (addI (subI n (e)) s) m HPn.out HKn.out A2.out Hm.out _) | exact qD (tAt (p) (k) (addI (subI n (e)) s) m HPn.out HKn.out A2.out Hm.out _))))
  go_wp2_with fail
  ((with_reducible refine (wDown c 3 2 Hc.out (Wlit (by omega)) (Wlit (by omega)) _).mono ?_); rintro e' w' ⟨rfl, n8, rfl⟩)
  go_wp2_with fail
  rw [EA.out, HW.out]
  ((with_reducible refine (wDown (grAim c (p) (e) (k) m n s - c) ak c B4.out Hak.out Hc.out _).mono ?_); rintro e' w' ⟨rfl, n9, rfl⟩)
  go_wp2_with fail
  ((with_reducible refine (sAdd c (downI (grAim c (p) (e) (k) m n s - c) ak c) Hc.out D1.out _).mono ?_); rintro e' w' ⟨rfl, rfl⟩)
  rw [EC.out]
  go_wp2_with fail
  ((with_reducible refine (wDown m ak c Hm.out Hak.out Hc.out _).mono ?_); rintro e' w' ⟨rfl, n11, rfl⟩)
  go_wp2_with fail
  ((with_reducible refine (sAdd (f) (downI m ak c) HFn.out D2.out _).mono ?_); rintro e' w' ⟨rfl, rfl⟩)
  rw [EF.out]
  go_wp2_with fail
  refine bodyPost_ret (v := .agg #[.int .u64 (max (grC c (p) (e) (k) ak m n s) (grF c (p) (f) ak m)), .int .u64 (t), .int .u64 (a), .int .u64 (p), .int .u64 (e), .int .u64 (k), .int .u64 (grF c (p) (f) ak m)]) (by simp [results, Try.results70, go_sem]) rfl ⟨rfl, ?_⟩
  repeat (first | exact Gr.refl _ | apply Gr.drewN | apply Gr.drew | apply Gr.gw | apply Gr.alloc)
set_option maxHeartbeats 1000000 in
theorem tGrowNewZero (c t a p e k f ak m n s : Int) (hc : W64 c) (hp : W64 p) (he : W64 e) (hk : W64 k) (hf : W64 f) (hak : W64 ak) (hm : W64 m) (hn : W64 n) (hs : W64 s) (h : t ≤ 0) (h1 : e = 18446744073709551615) (h2 : c = 0) (w : World) :
    Calls Try.prog 70 #[.agg #[.int .u64 c, .int .u64 t, .int .u64 a, .int .u64 p, .int .u64 e, .int .u64 k, .int .u64 f], .int .u64 ak, .int .u64 m, .int .u64 n, .int .u64 s] w fun e' w' => e' = .returned (.agg #[.int .u64 (0), .int .u64 (t), .int .u64 (a), .int .u64 (max p 0), .int .u64 (n), .int .u64 (longI p 0 m), .int .u64 (0)]) ∧ Gr w w' := by
  subst h1
  subst h2
  have Hc := Lib.hid hc
  have Hp := Lib.hid hp
  have He := Lib.hid he
  have Hk := Lib.hid hk
  have Hf := Lib.hid hf
  have Hak := Lib.hid hak
  have Hm := Lib.hid hm
  have Hn := Lib.hid hn
  have Hs := Lib.hid hs
  clear hc hp he hk hf hak hm hn hs
  go_enter Try.func70, Try.ntmps70
  go_wp2_with fail
  go_region_held3 (fun w' => w'.cell? ⟨w.heap.size, 0, none⟩ = some (.int .u64 0) ∧ w'.cell? ⟨w.heap.size, 3, none⟩ = some (.int .u64 p)) (first | go_simp | go_keep)
    ((go_at_call 107; ((with_reducible refine (tLong p 0 m Hp.out Hc.out Hm.out _).mono ?_); rintro e' w' ⟨rfl, nL, rfl⟩)))
  go_wp2_with fail
  refine bodyPost_ret (v := .agg #[.int .u64 (0), .int .u64 (t), .int .u64 (a), .int .u64 (max p 0), .int .u64 (n), .int .u64 (longI p 0 m), .int .u64 (0)]) (by simp [results, Try.results70, go_sem]) rfl ⟨rfl, ?_⟩
  repeat (first | exact Gr.refl _ | apply Gr.drewN | apply Gr.drew | apply Gr.gw | apply Gr.alloc)
set_option maxHeartbeats 1000000 in
theorem tGrowNewLo (c t a p e k f ak m n s : Int) (hc : W64 c) (hp : W64 p) (he : W64 e) (hk : W64 k) (hf : W64 f) (hak : W64 ak) (hm : W64 m) (hn : W64 n) (hs : W64 s) (h : t ≤ c) (h1 : e = 18446744073709551615) (h2 : 0 < c) (h3 : c < p) (w : World) :
    Calls Try.prog 70 #[.agg #[.int .u64 c, .int .u64 t, .int .u64 a, .int .u64 p, .int .u64 e, .int .u64 k, .int .u64 f], .int .u64 ak, .int .u64 m, .int .u64 n, .int .u64 s] w fun e' w' => e' = .returned (.agg #[.int .u64 (max (grC c (p) (n) (longI p c m) ak m n s) (grF c (p) (c) ak m)), .int .u64 (t), .int .u64 (a), .int .u64 (p), .int .u64 (n), .int .u64 (longI p c m), .int .u64 (grF c (p) (c) ak m)]) ∧ Gr w w' := by
  subst h1
  have h2b : (c == 0) = false := by rw [beq_eq_false_iff_ne]; omega
  have hP : W64 (p) := by unfold W64 at *; omega
  have hE : W64 (n) := hn
  have hK : W64 (longI p c m) := by have := longI_W p c m; unfold W64; omega
  have hF : W64 (c) := hc
  have A1 := Lib.hid (subI_W n (n) hn hE)
  have A2 := Lib.hid (addI_W (subI n (n)) s A1.out hs)
  have A3 := Lib.hid (atI_W (p) (longI p c m) (addI (subI n (n)) s) m hP)
  have B1 := Lib.hid (grAim_W c (p) (n) (longI p c m) m n s hc hP)
  have HPn := Lib.hid hP
  have HEn := Lib.hid hE
  have HKn := Lib.hid hK
  have HFn := Lib.hid hF
  have D1 := Lib.hid (downI_W (grAim c (p) (n) (longI p c m) m n s - c) ak c)
  have D2 := Lib.hid (downI_W m ak c)
  have D3 := Lib.hid (downI_W (downI m ak c) 9 17)
  have D4 := Lib.hid (downI_W c 3 2)
  have b2 : grAim c (p) (n) (longI p c m) m n s ≤ 18446744073709551615 := B1.out.2
  have b3 : c ≤ grAim c (p) (n) (longI p c m) m n s := by unfold grAim; omega
  have B4 := Lib.hid (show W64 (grAim c (p) (n) (longI p c m) m n s - c) from Wlit (by have := hc.1; omega))
  have EA : Hid (max (min (atI (p) (longI p c m) (addI (subI n (n)) s) m) (downI c 3 2)) c = grAim c (p) (n) (longI p c m) m n s) := rfl
  have EA' : Hid (max c (min (atI (p) (longI p c m) (addI (subI n (n)) s) m) (downI c 3 2)) = grAim c (p) (n) (longI p c m) m n s) := by show _ = _; unfold grAim; omega
  have EC : Hid (addI c (downI (grAim c (p) (n) (longI p c m) m n s - c) ak c) = grC c (p) (n) (longI p c m) ak m n s) := rfl
  have EF : Hid (addI (c) (downI (downI m ak c) 9 17) = grF c (p) (c) ak m) := by show _ = _; unfold grF grMore; rw [if_pos (by omega)]
  have hc0 : 0 ≤ c := hc.1
  have hw : IntKind.u64.wrap (grAim c (p) (n) (longI p c m) m n s - c) = grAim c (p) (n) (longI p c m) m n s - c := by rw [IntKind.wrap_u64]; have := B4.out; unfold W64 at this; omega
  have HW := Lib.hid hw
  clear hP hE hK hF hw
  have Hc := Lib.hid hc
  have Hp := Lib.hid hp
  have He := Lib.hid he
  have Hk := Lib.hid hk
  have Hf := Lib.hid hf
  have Hak := Lib.hid hak
  have Hm := Lib.hid hm
  have Hn := Lib.hid hn
  have Hs := Lib.hid hs
  clear hc hp he hk hf hak hm hn hs
  go_enter Try.func70, Try.ntmps70
  go_wp2_with fail
  go_region_held3 (fun w' => w'.cell? ⟨w.heap.size, 0, none⟩ = some (.int .u64 c) ∧ w'.cell? ⟨w.heap.size, 3, none⟩ = some (.int .u64 p)) (first | go_simp | go_keep)
    ((go_at_call 107; ((with_reducible refine (tLong p c m Hp.out Hc.out Hm.out _).mono ?_); rintro e' w' ⟨rfl, nL, rfl⟩)))
  go_wp2_with fail
  go_quiet ((first
    | (go_at_call 109; first | exact qS' (kSince n (n) Hn.out HEn.out _) | exact qS (kSince n (n) Hn.out HEn.out _))
    | (go_at_call 66; first | exact qS' (kAfter (subI n (n)) s A1.out Hs.out _) | exact qS (kAfter (subI n (n)) s A1.out Hs.out _))
    | (go_at_call 108; first | exact qD' (tAt (p) (longI p c m) (addI (subI n (n)) s) m HPn.out HKn.out A2.out Hm.out _) | exact qD (tAt (p) (longI p c m) (addI (subI n (n)) s) m HPn.out HKn.out A2.out Hm.out _))))
  go_wp2_with fail
  ((with_reducible refine (wDown c 3 2 Hc.out (Wlit (by omega)) (Wlit (by omega)) _).mono ?_); rintro e' w' ⟨rfl, n13, rfl⟩)
  go_wp2_with fail
  rw [EA.out, HW.out]
  ((with_reducible refine (wDown (grAim c (p) (n) (longI p c m) m n s - c) ak c B4.out Hak.out Hc.out _).mono ?_); rintro e' w' ⟨rfl, n14, rfl⟩)
  go_wp2_with fail
  ((with_reducible refine (sAdd c (downI (grAim c (p) (n) (longI p c m) m n s - c) ak c) Hc.out D1.out _).mono ?_); rintro e' w' ⟨rfl, rfl⟩)
  rw [EC.out]
  go_wp2_with fail
  ((with_reducible refine (wDown m ak c Hm.out Hak.out Hc.out _).mono ?_); rintro e' w' ⟨rfl, n16, rfl⟩)
  go_wp2_with fail
  ((with_reducible refine (wDown (downI m ak c) 9 17 D2.out (Wlit (by omega)) (Wlit (by omega)) _).mono ?_); rintro e' w' ⟨rfl, n17, rfl⟩)
  go_wp2_with fail
  ((with_reducible refine (sAdd (c) (downI (downI m ak c) 9 17) HFn.out D3.out _).mono ?_); rintro e' w' ⟨rfl, rfl⟩)
  rw [EF.out]
  go_wp2_with fail
  refine bodyPost_ret (v := .agg #[.int .u64 (max (grC c (p) (n) (longI p c m) ak m n s) (grF c (p) (c) ak m)), .int .u64 (t), .int .u64 (a), .int .u64 (p), .int .u64 (n), .int .u64 (longI p c m), .int .u64 (grF c (p) (c) ak m)]) (by simp [results, Try.results70, go_sem]) rfl ⟨rfl, ?_⟩
  repeat (first | exact Gr.refl _ | apply Gr.drewN | apply Gr.drew | apply Gr.gw | apply Gr.alloc)
set_option maxHeartbeats 1000000 in
theorem tGrowNewHi (c t a p e k f ak m n s : Int) (hc : W64 c) (hp : W64 p) (he : W64 e) (hk : W64 k) (hf : W64 f) (hak : W64 ak) (hm : W64 m) (hn : W64 n) (hs : W64 s) (h : t ≤ c) (h1 : e = 18446744073709551615) (h2 : 0 < c) (h3 : p ≤ c) (w : World) :
    Calls Try.prog 70 #[.agg #[.int .u64 c, .int .u64 t, .int .u64 a, .int .u64 p, .int .u64 e, .int .u64 k, .int .u64 f], .int .u64 ak, .int .u64 m, .int .u64 n, .int .u64 s] w fun e' w' => e' = .returned (.agg #[.int .u64 (max (grC c (max p c) (n) (longI p c m) ak m n s) (grF c (max p c) (c) ak m)), .int .u64 (t), .int .u64 (a), .int .u64 (max p c), .int .u64 (n), .int .u64 (longI p c m), .int .u64 (grF c (max p c) (c) ak m)]) ∧ Gr w w' := by
  subst h1
  have h2b : (c == 0) = false := by rw [beq_eq_false_iff_ne]; omega
  have hP : W64 (max p c) := by unfold W64 at *; omega
  have hE : W64 (n) := hn
  have hK : W64 (longI p c m) := by have := longI_W p c m; unfold W64; omega
  have hF : W64 (c) := hc
  have A1 := Lib.hid (subI_W n (n) hn hE)
  have A2 := Lib.hid (addI_W (subI n (n)) s A1.out hs)
  have A3 := Lib.hid (atI_W (max p c) (longI p c m) (addI (subI n (n)) s) m hP)
  have B1 := Lib.hid (grAim_W c (max p c) (n) (longI p c m) m n s hc hP)
  have HPn := Lib.hid hP
  have HEn := Lib.hid hE
  have HKn := Lib.hid hK
  have HFn := Lib.hid hF
  have D1 := Lib.hid (downI_W (grAim c (max p c) (n) (longI p c m) m n s - c) ak c)
  have D2 := Lib.hid (downI_W m ak c)
  have D3 := Lib.hid (downI_W (downI m ak c) 9 17)
  have D4 := Lib.hid (downI_W c 3 2)
  have b2 : grAim c (max p c) (n) (longI p c m) m n s ≤ 18446744073709551615 := B1.out.2
  have b3 : c ≤ grAim c (max p c) (n) (longI p c m) m n s := by unfold grAim; omega
  have B4 := Lib.hid (show W64 (grAim c (max p c) (n) (longI p c m) m n s - c) from Wlit (by have := hc.1; omega))
  have EA : Hid (max (min (atI (max p c) (longI p c m) (addI (subI n (n)) s) m) (downI c 3 2)) c = grAim c (max p c) (n) (longI p c m) m n s) := rfl
  have EA' : Hid (max c (min (atI (max p c) (longI p c m) (addI (subI n (n)) s) m) (downI c 3 2)) = grAim c (max p c) (n) (longI p c m) m n s) := by show _ = _; unfold grAim; omega
  have EC : Hid (addI c (downI (grAim c (max p c) (n) (longI p c m) m n s - c) ak c) = grC c (max p c) (n) (longI p c m) ak m n s) := rfl
  have EF : Hid (addI (c) (downI m ak c) = grF c (max p c) (c) ak m) := by show _ = _; unfold grF grMore; rw [if_neg (by omega)]
  have hc0 : 0 ≤ c := hc.1
  have hw : IntKind.u64.wrap (grAim c (max p c) (n) (longI p c m) m n s - c) = grAim c (max p c) (n) (longI p c m) m n s - c := by rw [IntKind.wrap_u64]; have := B4.out; unfold W64 at this; omega
  have HW := Lib.hid hw
  clear hP hE hK hF hw
  have h5 : max p c ≤ c := by omega
  have Hc := Lib.hid hc
  have Hp := Lib.hid hp
  have He := Lib.hid he
  have Hk := Lib.hid hk
  have Hf := Lib.hid hf
  have Hak := Lib.hid hak
  have Hm := Lib.hid hm
  have Hn := Lib.hid hn
  have Hs := Lib.hid hs
  clear hc hp he hk hf hak hm hn hs
  go_enter Try.func70, Try.ntmps70
  go_wp2_with fail
  go_region_held3 (fun w' => w'.cell? ⟨w.heap.size, 0, none⟩ = some (.int .u64 c) ∧ w'.cell? ⟨w.heap.size, 3, none⟩ = some (.int .u64 p)) (first | go_simp | go_keep)
    ((go_at_call 107; ((with_reducible refine (tLong p c m Hp.out Hc.out Hm.out _).mono ?_); rintro e' w' ⟨rfl, nL, rfl⟩)))
  go_wp2_with fail
  go_quiet ((first
    | (go_at_call 109; first | exact qS' (kSince n (n) Hn.out HEn.out _) | exact qS (kSince n (n) Hn.out HEn.out _))
    | (go_at_call 66; first | exact qS' (kAfter (subI n (n)) s A1.out Hs.out _) | exact qS (kAfter (subI n (n)) s A1.out Hs.out _))
    | (go_at_call 108; first | exact qD' (tAt (max p c) (longI p c m) (addI (subI n (n)) s) m HPn.out HKn.out A2.out Hm.out _) | exact qD (tAt (max p c) (longI p c m) (addI (subI n (n)) s) m HPn.out HKn.out A2.out Hm.out _))))
  go_wp2_with fail
  ((with_reducible refine (wDown c 3 2 Hc.out (Wlit (by omega)) (Wlit (by omega)) _).mono ?_); rintro e' w' ⟨rfl, n19, rfl⟩)
  go_wp2_with fail
  rw [EA.out, HW.out]
  ((with_reducible refine (wDown (grAim c (max p c) (n) (longI p c m) m n s - c) ak c B4.out Hak.out Hc.out _).mono ?_); rintro e' w' ⟨rfl, n20, rfl⟩)
  go_wp2_with fail
  ((with_reducible refine (sAdd c (downI (grAim c (max p c) (n) (longI p c m) m n s - c) ak c) Hc.out D1.out _).mono ?_); rintro e' w' ⟨rfl, rfl⟩)
  rw [EC.out]
  go_wp2_with fail
  ((with_reducible refine (wDown m ak c Hm.out Hak.out Hc.out _).mono ?_); rintro e' w' ⟨rfl, n22, rfl⟩)
  go_wp2_with fail
  ((with_reducible refine (sAdd (c) (downI m ak c) HFn.out D2.out _).mono ?_); rintro e' w' ⟨rfl, rfl⟩)
  rw [EF.out]
  go_wp2_with fail
  refine bodyPost_ret (v := .agg #[.int .u64 (max (grC c (max p c) (n) (longI p c m) ak m n s) (grF c (max p c) (c) ak m)), .int .u64 (t), .int .u64 (a), .int .u64 (max p c), .int .u64 (n), .int .u64 (longI p c m), .int .u64 (grF c (max p c) (c) ak m)]) (by simp [results, Try.results70, go_sem]) rfl ⟨rfl, ?_⟩
  repeat (first | exact Gr.refl _ | apply Gr.drewN | apply Gr.drew | apply Gr.gw | apply Gr.alloc)
set_option maxHeartbeats 1000000 in
theorem rGrowSlow (c t a p e k f ak m n s : Int) (hc : W64 c) (hp : W64 p) (he : W64 e) (hk : W64 k) (hf : W64 f) (hak : W64 ak) (hm : W64 m) (hn : W64 n) (hs : W64 s) (h : c < t) (w : World) :
    Calls Try.prog 74 #[.agg #[.int .u64 c, .int .u64 t, .int .u64 a, .int .u64 p, .int .u64 e, .int .u64 k, .int .u64 f], .int .u64 ak, .int .u64 m, .int .u64 n, .int .u64 s] w fun e' w' => e' = .returned (.agg #[.int .u64 (slowI c ak m), .int .u64 (t), .int .u64 (a), .int .u64 (p), .int .u64 (e), .int .u64 (k), .int .u64 (f)]) ∧ Gr w w' := by
  have Hc := Lib.hid hc
  have Hp := Lib.hid hp
  have He := Lib.hid he
  have Hk := Lib.hid hk
  have Hf := Lib.hid hf
  have Hak := Lib.hid hak
  have Hm := Lib.hid hm
  have Hn := Lib.hid hn
  have Hs := Lib.hid hs
  clear hc hp he hk hf hak hm hn hs
  go_enter Try.func74, Try.ntmps74
  go_wp2_with fail
  ((with_reducible refine (qSlow c t a p e k f ak m Hc.out Hak.out Hm.out _).mono ?_); rintro e' w' ⟨rfl, n24, os24, rfl⟩)
  go_wp2_with fail
  refine bodyPost_ret (v := .agg #[.int .u64 (slowI c ak m), .int .u64 (t), .int .u64 (a), .int .u64 (p), .int .u64 (e), .int .u64 (k), .int .u64 (f)]) (by simp [results, Try.results74, go_sem]) rfl ⟨rfl, ?_⟩
  repeat (first | exact Gr.refl _ | apply Gr.drewN | apply Gr.drew | apply Gr.gw | apply Gr.alloc)
set_option maxHeartbeats 1000000 in
theorem rGrowOldZero (c t a p e k f ak m n s : Int) (hc : W64 c) (hp : W64 p) (he : W64 e) (hk : W64 k) (hf : W64 f) (hak : W64 ak) (hm : W64 m) (hn : W64 n) (hs : W64 s) (h : t ≤ 0) (h1 : (e == 18446744073709551615) = false) (h2 : c = 0) (w : World) :
    Calls Try.prog 74 #[.agg #[.int .u64 c, .int .u64 t, .int .u64 a, .int .u64 p, .int .u64 e, .int .u64 k, .int .u64 f], .int .u64 ak, .int .u64 m, .int .u64 n, .int .u64 s] w fun e' w' => e' = .returned (.agg #[.int .u64 (0), .int .u64 (t), .int .u64 (a), .int .u64 (p), .int .u64 (e), .int .u64 (k), .int .u64 (f)]) ∧ Gr w w' := by
  subst h2
  have Hc := Lib.hid hc
  have Hp := Lib.hid hp
  have He := Lib.hid he
  have Hk := Lib.hid hk
  have Hf := Lib.hid hf
  have Hak := Lib.hid hak
  have Hm := Lib.hid hm
  have Hn := Lib.hid hn
  have Hs := Lib.hid hs
  clear hc hp he hk hf hak hm hn hs
  go_enter Try.func74, Try.ntmps74
  go_wp2_with fail
  refine bodyPost_ret (v := .agg #[.int .u64 (0), .int .u64 (t), .int .u64 (a), .int .u64 (p), .int .u64 (e), .int .u64 (k), .int .u64 (f)]) (by simp [results, Try.results74, go_sem]) rfl ⟨rfl, ?_⟩
  repeat (first | exact Gr.refl _ | apply Gr.drewN | apply Gr.drew | apply Gr.gw | apply Gr.alloc)
set_option maxHeartbeats 1000000 in
theorem rGrowNewZero (c t a p e k f ak m n s : Int) (hc : W64 c) (hp : W64 p) (he : W64 e) (hk : W64 k) (hf : W64 f) (hak : W64 ak) (hm : W64 m) (hn : W64 n) (hs : W64 s) (h : t ≤ 0) (h1 : e = 18446744073709551615) (h2 : c = 0) (w : World) :
    Calls Try.prog 74 #[.agg #[.int .u64 c, .int .u64 t, .int .u64 a, .int .u64 p, .int .u64 e, .int .u64 k, .int .u64 f], .int .u64 ak, .int .u64 m, .int .u64 n, .int .u64 s] w fun e' w' => e' = .returned (.agg #[.int .u64 (0), .int .u64 (t), .int .u64 (a), .int .u64 (max p 0), .int .u64 (n), .int .u64 (longI p 0 m), .int .u64 (0)]) ∧ Gr w w' := by
  subst h1
  subst h2
  have Hc := Lib.hid hc
  have Hp := Lib.hid hp
  have He := Lib.hid he
  have Hk := Lib.hid hk
  have Hf := Lib.hid hf
  have Hak := Lib.hid hak
  have Hm := Lib.hid hm
  have Hn := Lib.hid hn
  have Hs := Lib.hid hs
  clear hc hp he hk hf hak hm hn hs
  go_enter Try.func74, Try.ntmps74
  go_wp2_with fail
  ((with_reducible refine (rLong p 0 m Hp.out Hc.out Hm.out _).mono ?_); rintro e' w' ⟨rfl, n28, os28, rfl⟩)
  go_wp2_with fail
  refine bodyPost_ret (v := .agg #[.int .u64 (0), .int .u64 (t), .int .u64 (a), .int .u64 (max p 0), .int .u64 (n), .int .u64 (longI p 0 m), .int .u64 (0)]) (by simp [results, Try.results74, go_sem]) rfl ⟨rfl, ?_⟩
  repeat (first | exact Gr.refl _ | apply Gr.drewN | apply Gr.drew | apply Gr.gw | apply Gr.alloc)
end Go.Proofs.Ytikkmdbaekdolaa
