/- For all slices b of bytes, OctetOne returns true: if a number is read, the bytes that were read are its encoding. No condition. -/
import Derived.Test.YtinbfjkonaohnaaBase
import Derived.SizedLaws
import Derived.Test.YtinbfjkonaohnaaAliveOctet
import Derived.Test.YtinbfjkonaohnaaNumAny
import Derived.Test.YtinbfjkonaohnaaTurn
namespace Go.Proofs.Ytinbfjkonaohnaa.octetOne
open Go.ChangeShapes Go.WideShapes Go.ChangeAt Go.RowKit Go.Lib
set_option linter.unusedVariables false

theorem putA_len (n : Int) : 1 ≤ (putA n).length ∧ (putA n).length ≤ 8 := by
  unfold putA
  repeat' split
  all_goals simp

/-- what a row of bytes of the call's own holds -/
theorem bytes_own {w : World} {base n : Nat} {v : Value} {xs : List Int} (h : w.ownsRow base 5 1 v n (xs.map (.int .u8))) (hn : 0 < n) :
    ∃ g c, v = .slice (some ⟨g, 0, none⟩) n c ∧ base ≤ g ∧ n ≤ c ∧ c ≤ 9223372036854775807 ∧ BytesAt w g 0 xs := by
  obtain ⟨hlen, ⟨_, h2⟩ | ⟨g, c, cur, rfl, hg, hheap, hc, hm, hcs, htake⟩⟩ := h
  · omega
  · unfold maxLen at hm
    refine ⟨g, c, rfl, hg, hc, by omega, (Array.getElem?_eq_some_iff.1 hheap).1, fun i hi => ?_⟩
    rw [cell_of_row w g (0 + i) cur _ _ hheap, ← Array.getElem?_toList]
    have := congrArg (·[i]?) htake
    simp only [List.getElem?_take, List.getElem?_map] at this
    simp at hlen
    rw [if_pos (by omega)] at this
    rw [Nat.zero_add, this, List.getElem?_eq_getElem hi]
    simp [List.getD, List.getElem?_eq_getElem hi]

theorem BytesAt.belowR {w w' : World} {B b off : Nat} {xs : List Int} (h : BytesAt w b off xs) (hb : Below B w w') (hB : b < B) : BytesAt w' b off xs :=
  ⟨Nat.lt_of_lt_of_le h.1 hb.size, fun i hi => by rw [hb.cell hB]; exact h.2 i hi⟩
theorem BytesAt.take {w : World} {b off : Nat} {xs : List Int} (h : BytesAt w b off xs) (n : Nat) : BytesAt w b off (xs.take n) :=
  ⟨h.1, fun i hi => by
    rw [List.length_take] at hi
    rw [h.2 i (by omega), List.getD_eq_getElem?_getD, List.getD_eq_getElem?_getD, List.getElem?_take, if_pos (by omega)]⟩

theorem wpStill_conv {ops : Array Oper} {rest : List Oper} {o : Oper} {a : Act} {w : World} {Q : Act → Prop} (hw : Region.wanted o (yielded ops a.tmps) = true) (y : Operand) (ho : o.op = .convert 34 9 y)
    (b off len cap : Nat) (hy : a.eval y = .slice (some ⟨b, off, none⟩) len cap) (xs : List Int) (hlen : xs.length = len) (h : BytesAt w b off xs)
    (hk : wpStill Try.prog ops w Q rest (a.put o.dst (.string (strOfNums xs)))) : wpStill Try.prog ops w Q (o :: rest) a := by
  unfold wpStill
  rw [hw, if_pos rfl]
  unfold Oper.still execOp
  have hr := run_convert_bytes_arg (P := Try.prog) w 34 5 Try.underlying34 Try.underlying5 b off len cap xs hlen (fun i hi => h.2 i (by omega)) 9 Try.underlying9
  simp only [ho, hy, hr, Sem.run_bind, Sem.run_pure, Result.andThen_ok, Oper.stillUpon_value]
  exact hk

set_option maxHeartbeats 2000000 in
theorem walkSome (b off len cap : Nat) (zs : List Int) (hzb : ∀ x ∈ zs, 0 ≤ x ∧ x ≤ 255) (w : World)
    (hz : zs.length = len) (hlc : len ≤ cap) (hr : cap ≤ 140737488351232) (h1 : 1 ≤ len) (BZ : BytesAt w b off zs) :
    Calls Try.prog 8 #[.slice (some ⟨b, off, none⟩) len cap] w fun e w' => e = .returned (.bool true) ∧ Below w.heap.size w w' := by
  have hbw := BZ.1
  go_enter Try.func8, Try.ntmps8
  go_wp2_with fail
  refine (oNew b off len cap zs hz (by omega) _ BZ).mono ?_; rintro e' w' ⟨w1, v1, hgrow1, hown1, rfl, rfl⟩
  obtain ⟨g, c, rfl, hg, hc, hm, B1⟩ := bytes_own hown1 (by omega)
  have b1 : Below w.heap.size w w1 := below_grown (Below.refl _ _) hgrow1 (Nat.le_refl _)
  have s1 := b1.size
  obtain ⟨w2, hw2⟩ : ∃ w2, w2 = w1.alloc (.cells #[.slice (some ⟨g, 0, none⟩) len c] 70) := ⟨_, rfl⟩
  have b2 : Below w1.heap.size w1 w2 := by rw [hw2]; exact (Below.refl _ _).alloc (Nat.le_refl _) _
  have s2 : w2.heap.size = w1.heap.size + 1 := by rw [hw2]; simp
  have p2 : w2.cell? ⟨w1.heap.size, 0, none⟩ = some (.slice (some ⟨g, 0, none⟩) len c) := by rw [hw2]; go_simp
  have q2 : w2.frozen? ⟨w1.heap.size, 0, none⟩ = false := by rw [hw2]; go_simp
  rw [← hw2]
  clear hw2 hown1 hgrow1
  have B2 := BytesAt.below B1 b2
  have BZ2 := BytesAt.below (BytesAt.below BZ b1) b2
  have gl := B1.1
  go_wp2_with fail
  refine (aliveOctet _).mono ?_; rintro e' w3 ⟨rfl, b3⟩
  have s3 := b3.size
  have p3 : w3.cell? ⟨w1.heap.size, 0, none⟩ = some (.slice (some ⟨g, 0, none⟩) len c) := by rw [b3.cell (by simp; omega)]; exact p2
  have q3 : w3.frozen? ⟨w1.heap.size, 0, none⟩ = false := by rw [b3.frozen (by simp; omega)]; exact q2
  have B3 := BytesAt.below B2 b3
  have BZ3 := BytesAt.below BZ2 b3
  have b03 : Below w.heap.size w w3 := b1.trans ((b2.mono (by omega)).trans (b3.mono (by omega)))
  clear B1 B2 BZ2 BZ
  go_wp2_with fail
  refine (oNumAny zs hzb w1.heap.size g 0 len c _ p3 q3 B3 hz ⟨hc, hm⟩ h1).mono ?_
  rintro e' w4 (⟨k, hk, rfl, rfl⟩ | ⟨N, K, hN, hput, hKl, rfl, x, hx, hw4⟩)
  · have hk0 : (k != 0) = true := by rw [bne_iff_ne]; omega
    go_wp2_with fail
    refine (oLeft w1.heap.size len c (some ⟨g, 0, none⟩) _ p3).mono ?_; rintro e' w' ⟨rfl, rfl⟩
    go_wp2_with fail
    go_ret
    exact ⟨rfl, b03⟩
  · have hk := putA_len N
    have hK : (putA N).length = K := by rw [hput, List.length_take]; omega
    rw [hK] at hk
    have b4 : Below w1.heap.size w3 w4 := by rw [hw4]; exact Below.setCell (Below.refl w1.heap.size w3) (Nat.le_refl w1.heap.size) _
    have s4 : w4.heap.size = w3.heap.size := by rw [hw4]; simp
    have p4 : w4.cell? ⟨w1.heap.size, 0, none⟩ = some (.slice x (len - K) (c - K)) := by rw [hw4]; go_simp
    clear hw4 hx
    have BZ4 : BytesAt w4 b off (zs.take K) := BytesAt.take (BytesAt.belowR BZ3 b4 (by omega)) K
    rw [← hput] at BZ4
    have HN := Lib.hid hN
    clear hN
    go_wp2_with fail
    refine (oPut N HN.out _).mono ?_; rintro e' w5 ⟨rfl, ⟨cs, hcs⟩, B5⟩
    have b5 : Below w4.heap.size w4 w5 := by rw [hcs]; exact (Below.refl _ _).alloc (Nat.le_refl _) _
    clear hcs
    have s5 := b5.size
    have BZ5 := BytesAt.below BZ4 b5
    have p5 : w5.cell? ⟨w1.heap.size, 0, none⟩ = some (.slice x (len - K) (c - K)) := by rw [b5.cell (by simp; omega)]; exact p4
    rw [hK]
    have k1 : (K : Int) ≤ (len : Int) := by omega
    have k2 : (len : Int) ≤ (cap : Int) := by omega
    have k3 : (cap : Int) ≤ 140737488351232 := by omega
    have k0 : (0 : Int) ≤ (K : Int) := by omega
    have k4 : (K : Int) ≤ (cap : Int) := by omega
    have k5 : K ≤ cap := by omega
    have k6 : ¬ cap < K := by omega
    have k7 : ¬ (cap : Int) < (K : Int) := by omega
    rw [s4] at B5
    have sum : IntKind.i64.wrap ((K : Int) + ((len - K : Nat) : Int)) = (len : Int) := by rw [IntKind.wrap_i64]; omega
    go_wp2_with fail
    refine wp_region_still_lit (by kernel_rfl) (by kernel_rfl) ?_
    repeat still_step
    still_call (turnS (oLeft w1.heap.size (len - K) (c - K) x w5.drew p5))
    repeat still_step
    refine wpStill_conv (by rfl) (.tmp 49) rfl w3.heap.size 0 K K rfl (putA N) hK ⟨B5.1, B5.2⟩ ?_
    repeat still_step
    refine wpStill_conv (by rfl) (.tmp 54) rfl b off K cap rfl (putA N) hK ⟨BZ5.1, BZ5.2⟩ ?_
    repeat still_step
    refine wpStill_nil ?_
    go_wp2_with fail
    go_ret
    exact ⟨by simp, b03.trans ((b4.mono (by omega)).trans ((b5.mono (by omega)).trans ⟨rfl, rfl, rfl, Nat.le_refl _, fun _ _ => rfl⟩))⟩

set_option maxHeartbeats 1000000 in
theorem oNew0 (ao : Option Addr) (cap : Nat) (h : ao = none → cap = 0) (w : World) :
    Calls Try.prog 25 #[.slice ao 0 cap] w fun e w' => ∃ w1 x c, Below w.heap.size w w1 ∧ e = .returned (.pointer (some ⟨w1.heap.size, 0, none⟩)) ∧ w' = w1.alloc (.cells #[.slice x 0 c] 70) := by
  obtain ⟨i, hi, hz, hs, hb⟩ := info_parts (P := Try.prog) (e := 5) (z := .int .u8 0) (size := 1) (bytes := 1) (by kernel_rfl)
  cases ao with
  | none =>
    rw [h rfl]
    go_enter Try.func25, Try.ntmps25
    go_wp2_with (at_builtin; refine wpList_append_own_none rfl _ _ 34 rfl w.heap.size 5 i 1 Try.underlying34 hi _ 0 _ rfl (World.ownsRow_nil _ _ _ _) rfl ?_)
    go_ret
    exact ⟨w, Below.refl _ _, rfl, none, 0, rfl⟩
  | some ad =>
    go_enter Try.func25, Try.ntmps25
    go_wp2_with (at_builtin; refine wpList_append_own _ rfl _ _ 34 rfl w.heap.size 5 i (.int .u8 0) 1 1 Try.underlying34 hi hz hs hb rfl (by decide) (.slice none 0 0) 0 [] rfl (World.ownsRow_nil _ _ _ _) ad 0 cap [] rfl rfl (fun j u hu => by simp at hu) (fun u hu => by simp at hu) (by simp) (by omega) (Nat.le_refl _) ?_; intro v' w1 hown hgrow hnil; obtain ⟨x, c, rfl⟩ := own_slice hown)
    go_ret
    exact ⟨w1, below_grown (Below.refl _ _) hgrow (Nat.le_refl _), rfl, x, c, rfl⟩

set_option maxHeartbeats 1000000 in
theorem walkZero (ao : Option Addr) (cap : Nat) (h : ao = none → cap = 0) (w : World) :
    Calls Try.prog 8 #[.slice ao 0 cap] w fun e w' => e = .returned (.bool true) ∧ Below w.heap.size w w' := by
  go_enter Try.func8, Try.ntmps8
  go_wp2_with fail
  refine (oNew0 ao cap h _).mono ?_; rintro e' w' ⟨w1, x, c, b1, rfl, rfl⟩
  have s1 := b1.size
  obtain ⟨w2, hw2⟩ : ∃ w2, w2 = w1.alloc (.cells #[.slice x 0 c] 70) := ⟨_, rfl⟩
  have b2 : Below w1.heap.size w1 w2 := by rw [hw2]; exact (Below.refl _ _).alloc (Nat.le_refl _) _
  have s2 : w2.heap.size = w1.heap.size + 1 := by rw [hw2]; simp
  have p2 : w2.cell? ⟨w1.heap.size, 0, none⟩ = some (.slice x 0 c) := by rw [hw2]; go_simp
  rw [← hw2]
  clear hw2
  go_wp2_with fail
  refine (aliveOctet _).mono ?_; rintro e' w3 ⟨rfl, b3⟩
  have s3 := b3.size
  have p3 : w3.cell? ⟨w1.heap.size, 0, none⟩ = some (.slice x 0 c) := by rw [b3.cell (by simp; omega)]; exact p2
  go_wp2_with fail
  refine (oNumNone w1.heap.size c x _ p3).mono ?_; rintro e' w' ⟨rfl, rfl⟩
  go_wp2_with fail
  refine (oLeft w1.heap.size 0 c x _ p3).mono ?_; rintro e' w' ⟨rfl, rfl⟩
  go_wp2_with fail
  go_ret
  exact ⟨rfl, b1.trans ((b2.mono (by omega)).trans (b3.mono (by omega)))⟩

theorem walk (a0 : Option Addr) (len0 cap0 : Nat) (z0 : List Int) (w : World) (w0 : IsRow .u8 w a0 len0 cap0 z0) (s0 : cap0 ≤ 140737488351232) :
    Calls Try.prog 8 #[.slice a0 len0 cap0] w fun e w' => e = .returned (.bool true) ∧ Below w.heap.size w w' := by
  rcases w0 with ⟨rfl, rfl, rfl, rfl⟩ | ⟨x, rfl, hl, hm, hz, hc, hw⟩
  · exact walkZero none 0 (fun _ => rfl) w
  · by_cases h0 : len0 = 0
    · subst h0
      exact walkZero (some x) cap0 (fun e => by cases e) w
    · obtain ⟨b, off, spot⟩ := x
      have h1 := hc 0 (by omega)
      obtain ⟨p1, p2⟩ := cell_plain h1
      have hs : spot = none := by simpa [Addr.add] using p1
      subst hs
      have ht : (z0.take len0).length = len0 := by rw [List.length_take]; omega
      refine walkSome b off len0 cap0 (z0.take len0) (fun y hy => wfU8 (hw y (List.mem_of_mem_take hy))) w ht hl s0 (by omega) ⟨by simpa [Addr.add] using p2, fun i hi => ?_⟩
      have h2 := hc i (by omega)
      rw [addr_add] at h2
      rw [h2, List.getD_eq_getElem?_getD, List.getD_eq_getElem?_getD, List.getElem?_take, if_pos (by omega)]

/-! ### the row's step -/
set_option maxRecDepth 100000 in
theorem lifted (os : Os) (started : os.Started) (H : Type) (enc : TypeId × Value → H) :
    ReturnsInHanded {} Try.checked os 8 .any (Rows.octetOneSpec.pre6 enc Try.prog Try.f8 Rows.octetOneRow.domain false) (Rows.octetOneSpec.post enc Try.prog Try.f8 false true false false) := by
  refine returnsInHanded_of_change_sized (C := Try.checked) own started (by kernel_rfl) Try.func8
    (ChangeSpec.witness6 (enc := enc) (C := Try.checked) false ⟨#[], #[.slice none 0 0], []⟩ 8 (by kernel_rfl) (by kernel_rfl) (by kernel_rfl) (by kernel_rfl)) ?_
  intro W base args ds gs before hval0 hW hcnd hsz0 _
  have hsz : (DataW.weightsEach Try.prog (Try.f8.params.toList ++ Rows.octetOneSpec.plain.varTypes Try.prog) (ds ++ gs)).all (· ≤ reachBytes) = true := hsz0
  clear hsz0
  have hval : ∀ (j : Nat) t v, Try.f8.params[j]? = some t → args[j]? = some v → Value.okWide Try.prog W .any base t v := hval0
  have hW' := hW
  obtain ⟨p, q, hA0, hV, rfl, hfz, hnd⟩ := hW
  have hA : DataW.TrodAll enc Try.prog W 0 (fun _ => true) true Try.f8.params.toList args.toList ds p := hA0
  rw [Try.params8] at hA hval hsz
  obtain ⟨v0, vs0, d0, ds0, p0, q0, hargs, rfl, rfl, h0, r0⟩ := trodAll_cons hA
  obtain ⟨rfl, rfl, rfl⟩ := trodAll_nil r0
  obtain rfl : args = #[v0] := by cases args; simp_all
  obtain ⟨rfl, rfl⟩ := trodVars_none hV
  obtain ⟨a0, len0, cap0, rfl⟩ := okWide_slice Try.underlying34 (hval 0 34 v0 rfl rfl)
  have k0 := h0
  have lt0 : ∀ x ∈ p0, x.block < W.heap.size := by obtain ⟨m, hm⟩ := k0; exact DataW.trod_lt m _ _ _ hm
  obtain ⟨z0, w0, s0⟩ : ∃ zs, IsRow .u8 W a0 len0 cap0 zs ∧ cap0 ≤ 140737488351232 := by
    obtain ⟨fuel, hf⟩ := h0
    rcases open_ints Try.underlying34 Try.underlying5 (by kernel_rfl) hf with ⟨hcs, _⟩ | ⟨x, l, c, zs, hcs, _, hl, hm, hz, hx, hcell, hwz⟩
    · simp [Value.cells] at hcs
      obtain ⟨rfl, rfl, rfl⟩ := hcs
      exact ⟨[], .inl ⟨rfl, rfl, rfl, rfl⟩, by omega⟩
    · simp [Value.cells] at hcs
      obtain ⟨rfl, rfl, rfl⟩ := hcs
      have hd := (Prod.mk.inj hx).1
      have hr := sized_slice hsz (j := 0) (t := 34) (e := 5) rfl (by rw [← hd]; rfl) Try.underlying34
      rw [show Try.prog.bytesOf 5 = 1 from by kernel_rfl] at hr
      simp only [lits, List.length_map, List.length_take, List.length_drop, reachBytes] at hr
      have hz' : zs.length = cap0 := by simpa using hz
      exact ⟨zs, .inr ⟨_, rfl, hl, hm, hz', hcell, hwz⟩, by omega⟩
  clear hA0 hval0
  refine (walk a0 len0 cap0 z0 W w0 s0).mono fun e W' ⟨he, bel⟩ => ?_
  subst he
  exact ⟨_, rfl, _, _, _, [], _, [], hW', trodAll_mk1 (shut_bool Try.underlying4 _), (trodAll_cons_mk (Below.trod laidOut (by kernel_rfl) (of_decide_eq_true (by kernel_rfl)) k0 bel lt0) trodAll_mk0), rfl, bel.frame _, fun h => by cases h⟩

theorem over : Rows.octetOneRow.holds Try.pinned (OpenSpec.ofChange Rows.octetOneSpec) :=
  OpenClaim.holds_of_wide 8 Try.f8 rfl rfl rfl rfl rfl rfl rfl ⟨rfl, rfl, rfl, rfl, rfl⟩ rfl rfl rfl rfl rfl (by kernel_rfl) Try.func8 (by kernel_rfl)
    (of_decide_eq_true (by kernel_rfl)) (by unfold Func.isWrapper; first | (rw [if_pos (by decide +kernel)]; kernel_rfl) | (rw [if_neg (by decide +kernel)]; exact ⟨rfl, rfl⟩))
    (fun os started H enc _ => lifted os started H enc)

/-- THE STATEMENT -/
theorem proved : Rows.OctetOneSaid := over
end Go.Proofs.Ytinbfjkonaohnaa.octetOne
