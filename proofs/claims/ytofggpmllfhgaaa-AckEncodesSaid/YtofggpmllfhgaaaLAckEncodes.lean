/- For all acknowledgments a, AckEncodes returns true: May and Encode agree with the definition. No condition. -/
import Derived.Test.YtofggpmllfhgaaaBase
import Derived.Test.YtofggpmllfhgaaaAliveAck
import Derived.Test.YtofggpmllfhgaaaAckEnc
import Derived.Test.YtofggpmllfhgaaaAckArg
namespace Go.Proofs.Ytofggpmllfhgaaa.ackEncodes
open Go.ChangeShapes Go.WideShapes Go.ChangeAt Go.RowKit Go.Lib
set_option linter.unusedVariables false
set_option maxRecDepth 100000

theorem exec_conv {o : Oper} {a : Act} {w : World} (y : Operand) (ho : o.op = .convert 23 9 y) (b off len cap : Nat) (hy : a.eval y = .slice (some ⟨b, off, none⟩) len cap) (xs : List Int) (hlen : xs.length = len) (h : BytesAt w b off xs) :
    (execOp a.eval o).run Try.prog w = .ok (.value (.string (strOfNums xs))) w := by
  unfold execOp
  have hr := run_convert_bytes_arg (P := Try.prog) w 23 5 Try.underlying23 Try.underlying5 b off len cap xs hlen (fun i hi => h.2 i (by omega)) 9 Try.underlying9
  simp only [ho, hy, hr, Sem.run_bind, Sem.run_pure, Result.andThen_ok]
theorem wp_of_exec {o : Oper} {a : Act} {w : World} {K : Act → World → Prop} {Q : Exit → Act → World → Prop} {v : Value} (h : (execOp a.eval o).run Try.prog w = .ok (.value v) w) (hk : K (a.put o.dst v) w) : o.wp Try.prog a w K Q := by
  unfold Oper.wp
  rw [h]
  exact hk

set_option maxHeartbeats 2000000 in
theorem walkNo (x y : Option Addr) (cx cy : Nat) (l m : List (Int × Int)) (hwl : ∀ s ∈ l, W64 s.1 ∧ W64 s.2) (hwm : ∀ s ∈ m, W64 s.1 ∧ W64 s.2) (hll : l.length ≤ 9223372036854775807) (hml : m.length ≤ 9223372036854775807) (t r : Int) (p : Bool) (hno : ¬ mayRows l m) (w : World) (hSl : SRow w x l) (hSm : SRow w y m) :
    Calls Try.prog 9 #[.agg #[.slice x l.length cx, .slice y m.length cy, .int .u64 t, .int .u64 r, .bool p]] w fun e w' => e = .returned (.bool true) ∧ Below w.heap.size w w' := by
  have C1 : ∀ W, SRow W x l → SRow W y m → _ := fun W Sl Sm => aEncodeNo x y cx cy l m hwl hwm hll hml t r p hno W Sl Sm
  have C2 : ∀ W, SRow W x l → SRow W y m → _ := fun W Sl Sm => rMayAck x y cx cy l m hwl hwm hll hml t r p false ⟨fun h => by simp at h, fun h => absurd h hno⟩ W Sl Sm
  have C3 : ∀ W, SRow W x l → SRow W y m → _ := fun W Sl Sm => aMay x y cx cy l m hwl hwm hll hml t r p false ⟨fun h => by simp at h, fun h => absurd h hno⟩ W Sl Sm
  have H1 := Lib.hid C1
  have H2 := Lib.hid C2
  have H3 := Lib.hid C3
  clear C1 C2 C3 hwl hwm hno
  go_enter Try.func9, Try.ntmps9
  go_wp2_with fail
  obtain ⟨w1, hw1⟩ : ∃ w1, w1 = w.alloc (.cells #[.slice x l.length cx, .slice y m.length cy, .int .u64 t, .int .u64 r, .bool p] 52 (0, 0)) := ⟨_, rfl⟩
  have b01 : Below w.heap.size w w1 := by rw [hw1]; exact (Below.refl _ _).alloc (Nat.le_refl _) _
  have D1 : AckAt w1 w.heap.size (.slice x l.length cx) (.slice y m.length cy) (.int .u64 t) (.int .u64 r) (.bool p) := by rw [hw1]; exact AckAt.alloc w _ _ _ _ _
  rw [← hw1]
  clear hw1
  refine (aliveAck _).mono ?_; rintro e' w2 ⟨rfl, b12⟩
  have D2 := D1.belowB D1.lt b12
  have b02 := b01.trans (b12.mono b01.size)
  obtain ⟨d0, d1, d2, d3, d4⟩ := D2.cells.1
  clear D1 b01 b12
  go_wp2_with fail
  refine (H1.out _ (hSl.below b02) (hSm.below b02)).mono ?_; rintro e' w3 ⟨rfl, hgr⟩
  have D3 := D2.belowB D2.lt hgr
  have b03 := b02.trans (hgr.mono b02.size)
  clear D2 d0 d1 d2 d3 d4 hgr
  obtain ⟨d0, d1, d2, d3, d4⟩ := D3.cells.1
  go_wp2_with fail
  refine (H2.out _ (hSl.below b03) (hSm.below b03)).mono ?_; rintro e' w4 ⟨rfl, hgr⟩
  have D4 := D3.belowB D3.lt hgr
  have b04 := b03.trans (hgr.mono b03.size)
  clear D3 d0 d1 d2 d3 d4 hgr
  obtain ⟨d0, d1, d2, d3, d4⟩ := D4.cells.1
  go_wp2_with fail
  refine (H3.out _ (hSl.below b04) (hSm.below b04)).mono ?_; rintro e' w5 ⟨rfl, hgr⟩
  have b05 := b04.trans (hgr.mono b04.size)
  go_wp2_with fail
  go_ret
  exact ⟨rfl, b05⟩

set_option maxHeartbeats 8000000 in
theorem walkYes (x y : Option Addr) (cx cy : Nat) (l m : List (Int × Int)) (t r : Int) (p : Bool) (hd : MayA ⟨l, m, t, r, p⟩) (w : World) (hSl : SRow w x l) (hSm : SRow w y m) :
    Calls Try.prog 9 #[.agg #[.slice x l.length cx, .slice y m.length cy, .int .u64 t, .int .u64 r, .bool p]] w fun e w' => e = .returned (.bool true) ∧ Below w.heap.size w w' := by
  have hmr := hd.rows
  simp only at hmr
  obtain ⟨_, wl, _⟩ := goodL_all l 0 (by omega) hd.s
  obtain ⟨_, wm, _⟩ := goodL_all m 0 (by omega) hd.m
  have hl9 : l.length ≤ 9223372036854775807 := by have := hmr.2.1; omega
  have hm9 : m.length ≤ 9223372036854775807 := by have := hmr.2.2.1; omega
  have CE : ∀ W, SRow W x l → SRow W y m → _ := fun W Sl Sm => aEncode x y cx cy l m t r p hd W Sl Sm
  have CP : ∀ W, SRow W x l → SRow W y m → _ := fun W Sl Sm => rPutAck x y cx cy l m t r p hd W Sl Sm
  have C2 : ∀ W, SRow W x l → SRow W y m → _ := fun W Sl Sm => rMayAck x y cx cy l m wl wm hl9 hm9 t r p true ⟨fun _ => hmr, fun _ => rfl⟩ W Sl Sm
  have C3 : ∀ W, SRow W x l → SRow W y m → _ := fun W Sl Sm => aMay x y cx cy l m wl wm hl9 hm9 t r p true ⟨fun _ => hmr, fun _ => rfl⟩ W Sl Sm
  have hpl : 0 < (putAckL ⟨l, m, t, r, p⟩).length := by simp [putAckL]
  obtain ⟨bs, hbs⟩ : ∃ l', l' = putAckL ⟨l, m, t, r, p⟩ := ⟨_, rfl⟩
  rw [← hbs] at CE CP hpl
  have HE := Lib.hid CE
  have HP := Lib.hid CP
  have H2 := Lib.hid C2
  have H3 := Lib.hid C3
  clear hbs CE CP C2 C3 hd hmr wl wm
  go_enter Try.func9, Try.ntmps9
  go_wp2_with fail
  obtain ⟨w1, hw1⟩ : ∃ w1, w1 = w.alloc (.cells #[.slice x l.length cx, .slice y m.length cy, .int .u64 t, .int .u64 r, .bool p] 52 (0, 0)) := ⟨_, rfl⟩
  have b01 : Below w.heap.size w w1 := by rw [hw1]; exact (Below.refl _ _).alloc (Nat.le_refl _) _
  have D1 : AckAt w1 w.heap.size (.slice x l.length cx) (.slice y m.length cy) (.int .u64 t) (.int .u64 r) (.bool p) := by rw [hw1]; exact AckAt.alloc w _ _ _ _ _
  rw [← hw1]
  clear hw1
  refine (aliveAck _).mono ?_; rintro e' w2 ⟨rfl, b12⟩
  have D2 := D1.belowB D1.lt b12
  have b02 := b01.trans (b12.mono b01.size)
  obtain ⟨d0, d1, d2, d3, d4⟩ := D2.cells.1
  clear D1 b01 b12
  go_wp2_with fail
  refine (HE.out _ (hSl.below b02) (hSm.below b02)).mono ?_; rintro e' w3 ⟨v3, rfl, b23, own3⟩
  obtain ⟨g, q, rfl, hg, hq, hqm, E3⟩ := ownBytes own3 hpl
  have D3 := D2.belowB D2.lt b23
  have b03 := b02.trans (b23.mono b02.size)
  clear own3 D2 d0 d1 d2 d3 d4 b23
  obtain ⟨d0, d1, d2, d3, d4⟩ := D3.cells.1
  go_wp2_with fail
  refine (H2.out _ (hSl.below b03) (hSm.below b03)).mono ?_; rintro e' w4 ⟨rfl, hgr⟩
  have D4 := D3.belowB D3.lt hgr
  have E4 := E3.below hgr
  have b04 := b03.trans (hgr.mono b03.size)
  clear D3 b03 d0 d1 d2 d3 d4 hgr E3
  go_wp2_with fail
  have bd := belDrew w4
  have b0D := b04.trans (bd.mono b04.size)
  have SD : AckAt w4.drew w.heap.size (.slice x l.length cx) (.slice y m.length cy) (.int .u64 t) (.int .u64 r) (.bool p) ∧ SRow w4.drew x l ∧ SRow w4.drew y m ∧ BytesAt w4.drew g 0 bs := ⟨D4, hSl.below b0D, hSm.below b0D, E4.below bd⟩
  have bel : ∀ W W', (AckAt W w.heap.size (.slice x l.length cx) (.slice y m.length cy) (.int .u64 t) (.int .u64 r) (.bool p) ∧ SRow W x l ∧ SRow W y m ∧ BytesAt W g 0 bs) → Below W.heap.size W W' → (AckAt W' w.heap.size (.slice x l.length cx) (.slice y m.length cy) (.int .u64 t) (.int .u64 r) (.bool p) ∧ SRow W' x l ∧ SRow W' y m ∧ BytesAt W' g 0 bs) := fun W W' h hb => ⟨h.1.belowB h.1.lt hb, h.2.1.below hb, h.2.2.1.below hb, h.2.2.2.below hb⟩
  have HBEL := Lib.hid bel
  clear bel bd D4 E4 b04 hSl hSm
  refine wp_region_held_drew (S := fun W => AckAt W w.heap.size (.slice x l.length cx) (.slice y m.length cy) (.int .u64 t) (.int .u64 r) (.bool p) ∧ SRow W x l ∧ SRow W y m ∧ BytesAt W g 0 bs) (by kernel_rfl) SD (fun hHeld => ?_)
  generalize w4.drew = X at *
  refine wpAnyH_take (i := 0) (oi := _) (v := (.agg #[.slice x l.length cx, .slice y m.length cy, .int .u64 t, .int .u64 r, .bool p])) rfl (by kernel_rfl) (by kernel_rfl) (by kernel_rfl) (fun _ _ _ h => h) (Or.inl ⟨by rfl, fun w hS => by obtain ⟨d0, d1, d2, d3, d4⟩ := (AckAt.cells hS.1).1; go_simp⟩) (by assumption) ?_
  simp [Act.put]
  refine wpAnyH_ready (rs := [1]) (by kernel_rfl) (by simp) ?_
  refine AllReadyH.cons (o := _) rfl (fun K hK => ?_) AllReadyH.nil
  go_simp
  refine (H3.out _ SD.2.1 SD.2.2.1).mono ?_; rintro e' W1 ⟨rfl, hgr⟩
  have S1 := HBEL.out _ _ SD hgr
  have b1 := b0D.trans (hgr.mono b0D.size)
  go_simp
  refine hK.out _ _ S1 (fun hHeld1 => ?_)
  clear hK K hgr
  refine wpAnyH_take (i := 2) (oi := _) (v := (.bool true)) rfl (by kernel_rfl) (by kernel_rfl) (by kernel_rfl) (fun _ _ _ h => h) (Or.inl ⟨by rfl, fun w hS => by go_simp⟩) (by assumption) ?_
  simp [Act.put]
  refine wpAnyH_take (i := 3) (oi := _) (v := (.int .i64 0)) rfl (by kernel_rfl) (by kernel_rfl) (by kernel_rfl) (fun _ _ _ h => h) (Or.inl ⟨by rfl, fun w hS => by go_simp⟩) (by assumption) ?_
  simp [Act.put]
  refine wpAnyH_take (i := 4) (oi := _) (v := (.bool true)) rfl (by kernel_rfl) (by kernel_rfl) (by kernel_rfl) (fun _ _ _ h => h) (Or.inl ⟨by rfl, fun w hS => by go_simp⟩) (by assumption) ?_
  simp [Act.put]
  refine wpAnyH_take (i := 5) (oi := _) (v := (.bool true)) rfl (by kernel_rfl) (by kernel_rfl) (by kernel_rfl) (fun _ _ _ h => h) (Or.inl ⟨by rfl, fun w hS => by go_simp⟩) (by assumption) ?_
  simp [Act.put]
  refine wpAnyH_take (i := 6) (oi := _) (v := (.bool true)) rfl (by kernel_rfl) (by kernel_rfl) (by kernel_rfl) (fun _ _ _ h => h) (Or.inl ⟨by rfl, fun w hS => by go_simp⟩) (by assumption) ?_
  simp [Act.put]
  refine wpAnyH_take (i := 7) (oi := _) (v := (.slice (some ⟨g, 0, none⟩) bs.length q)) rfl (by kernel_rfl) (by kernel_rfl) (by kernel_rfl) (fun _ _ _ h => h) (Or.inl ⟨by rfl, fun w hS => by go_simp⟩) (by assumption) ?_
  simp [Act.put]
  refine wpAnyH_take (i := 8) (oi := _) (v := (.string (strOfNums bs))) rfl (by kernel_rfl) (by kernel_rfl) (by kernel_rfl) (fun _ _ _ h => h) (Or.inl ⟨by rfl, fun w hS => by exact exec_conv (.tmp 34) rfl g 0 bs.length q rfl bs rfl hS.2.2.2⟩) (by assumption) ?_
  simp [Act.put]
  refine wpAnyH_take (i := 9) (oi := _) (v := (.agg #[.slice x l.length cx, .slice y m.length cy, .int .u64 t, .int .u64 r, .bool p])) rfl (by kernel_rfl) (by kernel_rfl) (by kernel_rfl) (fun _ _ _ h => h) (Or.inl ⟨by rfl, fun w hS => by obtain ⟨d0, d1, d2, d3, d4⟩ := (AckAt.cells hS.1).1; go_simp⟩) (by assumption) ?_
  simp [Act.put]
  refine wpAnyH_ready (rs := [10]) (by kernel_rfl) (by simp) ?_
  refine AllReadyH.cons (o := _) rfl (fun K hK => ?_) AllReadyH.nil
  go_simp
  refine (HP.out _ S1.2.1 S1.2.2.1).mono ?_; rintro e' W2 ⟨v2, rfl, b12, own2⟩
  obtain ⟨g2, q2, rfl, hg2, hq2, hqm2, E2⟩ := ownBytes own2 hpl
  have S2 := HBEL.out _ _ S1 b12
  have b2 := b1.trans (b12.mono b1.size)
  go_simp
  refine hK.out _ _ S2 (fun hHeld2 => ?_)
  clear hK K
  refine wpAnyH_ready (rs := [11]) (by kernel_rfl) (by simp) ?_
  refine AllReadyH.cons (o := _) rfl (fun K hK => ?_) AllReadyH.nil
  rw [if_pos (by rfl)]
  refine wp_of_exec (exec_conv (.tmp 37) rfl g2 0 bs.length q2 rfl bs rfl E2) ?_
  simp [Act.put]
  refine hK.out _ _ S2 (fun hHeld3 => ?_)
  clear hK K
  refine wpAnyH_take (i := 12) (oi := _) (v := (.bool true)) rfl (by kernel_rfl) (by kernel_rfl) (by kernel_rfl) (fun _ _ _ h => h) (Or.inl ⟨by rfl, fun w hS => by go_simp⟩) (by assumption) ?_
  simp [Act.put]
  refine wpAnyH_take (i := 13) (oi := _) (v := (.bool true)) rfl (by kernel_rfl) (by kernel_rfl) (by kernel_rfl) (fun _ _ _ h => h) (Or.inl ⟨by rfl, fun w hS => by go_simp⟩) (by assumption) ?_
  simp [Act.put]
  refine wpAnyH_take (i := 14) (oi := _) (v := (.bool true)) rfl (by kernel_rfl) (by kernel_rfl) (by kernel_rfl) (fun _ _ _ h => h) (Or.inl ⟨by rfl, fun w hS => by go_simp⟩) (by assumption) ?_
  simp [Act.put]
  refine wpAnyH_done (by kernel_rfl) ?_ _
  go_wp2_with fail
  go_ret
  exact ⟨rfl, b2⟩

theorem walk (x y : Option Addr) (cx cy : Nat) (l m : List (Int × Int)) (t r : Int) (p : Bool) (w : World) (hSl : SRow w x l) (hSm : SRow w y m) (hl : (∀ s ∈ l, W64 s.1 ∧ W64 s.2) ∧ l.length ≤ 9223372036854775807) (hm : (∀ s ∈ m, W64 s.1 ∧ W64 s.2) ∧ m.length ≤ 9223372036854775807) (ht : W64 t) (hr : W64 r) :
    Calls Try.prog 9 #[.agg #[.slice x l.length cx, .slice y m.length cy, .int .u64 t, .int .u64 r, .bool p]] w fun e w' => e = .returned (.bool true) ∧ Below w.heap.size w w' := by
  by_cases h : mayRows l m
  · refine walkYes x y cx cy l m t r p ⟨?_, ?_, ⟨h.1, h.2.1⟩, h.2.2.1, h.2.2.2.2.2, ht, hr⟩ w hSl hSm
    · refine goodAll_L l 0 h.2.2.2.1 hl.1 (fun h0 => ?_)
      rcases l with _ | ⟨s, l⟩
      · simp at h0
      · exact (hl.1 s (by simp)).1.1
    · refine goodAll_L m 0 h.2.2.2.2.1 hm.1 (fun h0 => ?_)
      rcases m with _ | ⟨s, m⟩
      · simp at h0
      · exact (hm.1 s (by simp)).1.1
  · exact walkNo x y cx cy l m hl.1 hm.1 hl.2 hm.2 t r p h w hSl hSm

/-! ### the row's step -/
set_option maxRecDepth 100000 in
theorem lifted (os : Os) (started : os.Started) (H : Type) (enc : TypeId × Value → H) :
    ReturnsInHanded {} Try.checked os 9 .any (Rows.ackEncodesSpec.pre6 enc Try.prog Try.f9 Rows.ackEncodesRow.domain false) (Rows.ackEncodesSpec.post enc Try.prog Try.f9 false true false false) := by
  refine returnsInHanded_of_change (C := Try.checked) own started (by kernel_rfl) Try.func9
    (ChangeSpec.witness6 (enc := enc) (C := Try.checked) false ⟨#[], #[.agg #[.slice none 0 0, .slice none 0 0, .int .u64 0, .int .u64 0, .bool false]], []⟩ 8 (by kernel_rfl) (by kernel_rfl) (by kernel_rfl) (by kernel_rfl)) ?_
  intro W base args ds gs before hval0 hW hcnd _
  have hval : ∀ (j : Nat) t v, Try.f9.params[j]? = some t → args[j]? = some v → Value.okWide Try.prog W .any base t v := hval0
  have hW' := hW
  obtain ⟨p, q, hA0, hV, rfl, hfz, hnd⟩ := hW
  have hA : DataW.TrodAll enc Try.prog W 0 (fun _ => true) true Try.f9.params.toList args.toList ds p := hA0
  rw [Try.params9] at hA hval
  obtain ⟨v0, vs0, d0, ds0, p0, q0, hargs, rfl, rfl, h0, r0⟩ := trodAll_cons hA
  obtain ⟨rfl, rfl, rfl⟩ := trodAll_nil r0
  obtain rfl : args = #[v0] := by cases args; simp_all
  obtain ⟨rfl, rfl⟩ := trodVars_none hV
  obtain ⟨cs0, rfl, hsz0⟩ := okWide_struct Try.underlying52 (hval 0 52 v0 rfl rfl)
  have k0 := h0
  have lt0 : ∀ x ∈ p0, x.block < W.heap.size := by obtain ⟨m, hm⟩ := k0; exact DataW.trod_lt m _ _ _ hm
  obtain ⟨A0, B0, C0, D0, E0, F0, G0, H0, Z0, hcs0, u0, u1, u2, u3, u4, u5⟩ : ∃ (a b : Option Addr) (ca cb : Nat) (l m : List (Int × Int)) (t r : Int) (p : Bool), cs0 = #[.slice a l.length ca, .slice b m.length cb, .int .u64 t, .int .u64 r, .bool p] ∧
      SRow W a l ∧ SRow W b m ∧ ((∀ s ∈ l, W64 s.1 ∧ W64 s.2) ∧ l.length ≤ 9223372036854775807) ∧ ((∀ s ∈ m, W64 s.1 ∧ W64 s.2) ∧ m.length ≤ 9223372036854775807) ∧ W64 t ∧ W64 r := by
    obtain ⟨fuel, hf⟩ := h0
    obtain ⟨a, b, ca, cb, l, m, t, r, p, he, hr⟩ := open_ack (by simpa [Value.cells] using hf)
    exact ⟨a, b, ca, cb, l, m, t, r, p, Array.toList_inj.1 he, hr⟩
  subst hcs0
  clear hA0 hval0
  refine (walk A0 B0 C0 D0 E0 F0 G0 H0 Z0 W u0 u1 u2 u3 u4 u5).mono fun e W' ⟨he, bel⟩ => ?_
  subst he
  exact ⟨_, rfl, _, _, _, [], _, [], hW', trodAll_mk1 (shut_bool Try.underlying4 _), (trodAll_cons_mk (Below.trod laidOut (by kernel_rfl) (of_decide_eq_true (by kernel_rfl)) k0 bel lt0) trodAll_mk0), rfl, bel.frame _, fun h => by cases h⟩

theorem over : Rows.ackEncodesRow.holds Try.pinned (OpenSpec.ofChange Rows.ackEncodesSpec) :=
  OpenClaim.holds_of_wide 9 Try.f9 rfl rfl rfl rfl rfl rfl rfl ⟨rfl, rfl, rfl, rfl, rfl⟩ rfl rfl rfl rfl rfl (by kernel_rfl) Try.func9 (by kernel_rfl)
    (of_decide_eq_true (by kernel_rfl)) (by unfold Func.isWrapper; first | (rw [if_pos (by decide +kernel)]; kernel_rfl) | (rw [if_neg (by decide +kernel)]; exact ⟨rfl, rfl⟩))
    (fun os started H enc _ => lifted os started H enc)

/-- THE STATEMENT -/
theorem proved : Rows.AckEncodesSaid := over
end Go.Proofs.Ytofggpmllfhgaaa.ackEncodes
