/- the reference grows a window: one way. -/
import Derived.Test.YtikkmdbaekdolaaGrow
import Derived.Deep.RegionWith
namespace Go.Proofs.Ytikkmdbaekdolaa
open Go.RowKit Go.Lib
set_option linter.unusedVariables false
set_option maxRecDepth 100000

set_option maxHeartbeats 4000000 in
theorem rGrowOldHi (c t a p e k f ak m n s : Int) (hc : W64 c) (hp : W64 p) (he : W64 e) (hk : W64 k) (hf : W64 f) (hak : W64 ak) (hm : W64 m) (hn : W64 n) (hs : W64 s) (h : t ≤ c) (h1 : (e == 18446744073709551615) = false) (h2 : 0 < c) (h3 : p ≤ f) (w : World) :
    Calls Try.prog 74 #[.agg #[.int .u64 c, .int .u64 t, .int .u64 a, .int .u64 p, .int .u64 e, .int .u64 k, .int .u64 f], .int .u64 ak, .int .u64 m, .int .u64 n, .int .u64 s] w fun e' w' => e' = .returned (.agg #[.int .u64 (max (grC c (p) (e) (k) ak m n s) (grF c (p) (f) ak m)), .int .u64 (t), .int .u64 (a), .int .u64 (p), .int .u64 (e), .int .u64 (k), .int .u64 (grF c (p) (f) ak m)]) ∧ Gr w w' := by
  have h2b : (c == 0) = false := by rw [beq_eq_false_iff_ne]; omega
  have hP : W64 (p) := by unfold W64 at *; omega
  have hE : W64 (e) := he
  have hK : W64 (k) := hk
  have hF : W64 (f) := hf
  have A1 := Lib.hid (subI_W n (e) hn hE)
  have A2 := Lib.hid (addI_W (subI n (e)) s A1.out hs)
  have A3 := Lib.hid (atI_W (p) (k) (addI (subI n (e)) s) m hP)
  have B1 := Lib.hid (grAim_W c (p) (e) (k) m n s hc hP)
  have HPn := Lib.hid hP
  have HEn := Lib.hid hE
  have HKn := Lib.hid hK
  have HFn := Lib.hid hF
  have D1 := Lib.hid (downI_W (grAim c (p) (e) (k) m n s - c) ak c)
  have D2 := Lib.hid (downI_W m ak c)
  have D3 := Lib.hid (downI_W (downI m ak c) 9 17)
  have D4 := Lib.hid (downI_W c 3 2)
  have b2 : grAim c (p) (e) (k) m n s ≤ 18446744073709551615 := B1.out.2
  have b3 : c ≤ grAim c (p) (e) (k) m n s := by unfold grAim; omega
  have B4 := Lib.hid (show W64 (grAim c (p) (e) (k) m n s - c) from Wlit (by have := hc.1; omega))
  have EA : Hid (max (min (atI (p) (k) (addI (subI n (e)) s) m) (downI c 3 2)) c = grAim c (p) (e) (k) m n s) := rfl
  have EA' : Hid (max c (min (atI (p) (k) (addI (subI n (e)) s) m) (downI c 3 2)) = grAim c (p) (e) (k) m n s) := by show _ = _; unfold grAim; omega
  have EC : Hid (addI c (downI (grAim c (p) (e) (k) m n s - c) ak c) = grC c (p) (e) (k) ak m n s) := rfl
  have EF : Hid (addI (f) (downI m ak c) = grF c (p) (f) ak m) := by show _ = _; unfold grF grMore; rw [if_neg (by omega)]
  have hc0 : 0 ≤ c := hc.1
  have hw : IntKind.u64.wrap (grAim c (p) (e) (k) m n s - c) = grAim c (p) (e) (k) m n s - c := by rw [IntKind.wrap_u64]; have := B4.out; unfold W64 at this; omega
  have HW := Lib.hid hw
  clear hP hE hK hF hw
  have Hc := Lib.hid hc
  have Hp := Lib.hid hp
  have He := Lib.hid he
  have Hk := Lib.hid hk
  have Hf := Lib.hid hf
  have Hak := Lib.hid hak
  have Hm := Lib.hid hm
  have Hn := Lib.hid hn
  have Hs := Lib.hid hs
  clear hc hp he hk hf hak hm hn hs
  go_enter Try.func74, Try.ntmps74
  go_wp2_with fail
  go_region_held3 (fun w' => w'.cell? ⟨w.heap.size, 0, none⟩ = some (.int .u64 (c)) ∧ w'.cell? ⟨w.heap.size, 3, none⟩ = some (.int .u64 (p)) ∧ w'.cell? ⟨w.heap.size, 4, none⟩ = some (.int .u64 (e)) ∧ w'.cell? ⟨w.heap.size, 5, none⟩ = some (.int .u64 (k)) ∧ w'.cell? ⟨w.heap.size, 6, none⟩ = some (.int .u64 (f))) (first | go_simp | go_keep)
    (first
      | (go_at_call 91; ((with_reducible refine (rSub n (e) Hn.out HEn.out _).mono ?_); rintro e' w' ⟨rfl, rfl⟩))
      | (go_at_call 68; ((with_reducible refine (rAdd (subI n (e)) s A1.out Hs.out _).mono ?_); rintro e' w' ⟨rfl, rfl⟩))
      | (go_at_call 113; ((with_reducible refine (rAt (p) (k) (addI (subI n (e)) s) m HPn.out HKn.out A2.out Hm.out _).mono ?_); rintro e' w' ⟨rfl, nA, osA, rfl⟩)))
  go_wp2_with fail
  go_region_held3 (fun w' => w'.cell? ⟨w.heap.size, 0, none⟩ = some (.int .u64 (c)) ∧ w'.cell? ⟨w.heap.size, 3, none⟩ = some (.int .u64 (p)) ∧ w'.cell? ⟨w.heap.size, 4, none⟩ = some (.int .u64 (e)) ∧ w'.cell? ⟨w.heap.size, 5, none⟩ = some (.int .u64 (k)) ∧ w'.cell? ⟨w.heap.size, 6, none⟩ = some (.int .u64 (f))) (first | go_simp | go_keep)
    ((go_at_call 114; ((with_reducible refine (rDownG c 3 2 Hc.out (Wlit (by omega)) (Wlit (by omega)) _).mono ?_); rintro e' w' ⟨rfl, nB, osB, rfl⟩)))
  rw [EA'.out]
  go_wp2_with fail
  ((with_reducible refine (rDownG m ak c Hm.out Hak.out Hc.out _).mono ?_); rintro e' w' ⟨rfl, n27, os27, rfl⟩)
  go_wp2_with fail
  have hwx := HW.out
  go_region_with (first
      | (go_at_call 114; ((with_reducible refine (rDownG (grAim c (p) (e) (k) m n s - c) ak c B4.out Hak.out Hc.out _).mono ?_); rintro e' w' ⟨rfl, nC, osC, rfl⟩))
      | (go_at_call 68; ((with_reducible refine (rAdd c (downI (grAim c (p) (e) (k) m n s - c) ak c) Hc.out D1.out _).mono ?_); rintro e' w' ⟨rfl, rfl⟩)))
  all_goals
    rw [EC.out]
    go_wp2_with fail
    ((with_reducible refine (rAdd (f) (downI m ak c) HFn.out D2.out _).mono ?_); rintro e' w' ⟨rfl, rfl⟩)
    rw [EF.out]
    go_wp2_with fail
    refine bodyPost_ret (v := .agg #[.int .u64 (max (grC c (p) (e) (k) ak m n s) (grF c (p) (f) ak m)), .int .u64 (t), .int .u64 (a), .int .u64 (p), .int .u64 (e), .int .u64 (k), .int .u64 (grF c (p) (f) ak m)]) (by simp [results, Try.results74, go_sem]) rfl ⟨rfl, ?_⟩
    repeat (first | exact Gr.refl _ | apply Gr.drewN | apply Gr.drew | apply Gr.gw | apply Gr.alloc)
end Go.Proofs.Ytikkmdbaekdolaa
