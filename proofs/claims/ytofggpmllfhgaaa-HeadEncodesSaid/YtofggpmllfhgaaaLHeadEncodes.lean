/- For all packets d, HeadEncodes returns true: May and Encode agree with the definition. No condition. -/
import Derived.Test.YtofggpmllfhgaaaBase
import Derived.Test.YtofggpmllfhgaaaAliveHead
import Derived.Test.YtofggpmllfhgaaaHeadRput
import Derived.Test.YtofggpmllfhgaaaDataArg
namespace Go.Proofs.Ytofggpmllfhgaaa.headEncodes
open Go.ChangeShapes Go.WideShapes Go.ChangeAt Go.RowKit Go.Lib
set_option linter.unusedVariables false
set_option maxRecDepth 100000

theorem exec_conv {o : Oper} {a : Act} {w : World} (y : Operand) (ho : o.op = .convert 23 9 y) (b off len cap : Nat) (hy : a.eval y = .slice (some ⟨b, off, none⟩) len cap) (xs : List Int) (hlen : xs.length = len) (h : BytesAt w b off xs) :
    (execOp a.eval o).run Try.prog w = .ok (.value (.string (strOfNums xs))) w := by
  unfold execOp
  have hr := run_convert_bytes_arg (P := Try.prog) w 23 5 Try.underlying23 Try.underlying5 b off len cap xs hlen (fun i hi => h.2 i (by omega)) 9 Try.underlying9
  simp only [ho, hy, hr, Sem.run_bind, Sem.run_pure, Result.andThen_ok]
theorem wp_of_exec {o : Oper} {a : Act} {w : World} {K : Act → World → Prop} {Q : Exit → Act → World → Prop} {v : Value} (h : (execOp a.eval o).run Try.prog w = .ok (.value v) w) (hk : K (a.put o.dst v) w) : o.wp Try.prog a w K Q := by
  unfold Oper.wp
  rw [h]
  exact hk

theorem body_of_row {w : World} {a : Option Addr} {len cap : Nat} {z : List Int} (h : IsRow .u8 w a len cap z) : ∃ bs, BodyAt w (.slice a len cap) bs ∧ (∀ x ∈ bs, 0 ≤ x ∧ x ≤ 255) ∧ bs.length ≤ cap := by
  rcases h with ⟨rfl, rfl, rfl, rfl⟩ | ⟨x, rfl, hl, hm, hz, hc, hw⟩
  · exact ⟨[], .inl ⟨none, 0, rfl, fun _ => rfl, rfl⟩, by simp, by simp⟩
  · by_cases h0 : len = 0
    · subst h0
      exact ⟨[], .inl ⟨some x, cap, rfl, (fun e => by cases e), rfl⟩, by simp, by simp⟩
    · obtain ⟨b, off, spot⟩ := x
      have h1 := hc 0 (by omega)
      obtain ⟨p1, p2⟩ := cell_plain h1
      have hs : spot = none := by simpa [Addr.add] using p1
      subst hs
      have ht : (z.take len).length = len := by rw [List.length_take]; omega
      refine ⟨z.take len, .inr ⟨b, off, cap, by rw [ht], by omega, by omega, by unfold maxLen at hm; omega, by simpa [Addr.add] using p2, fun i hi => ?_⟩, fun y hy => wfU8 (hw y (List.mem_of_mem_take hy)), by omega⟩
      rw [ht] at hi
      have h2 := hc i (by omega)
      rw [addr_add] at h2
      rw [h2, List.getD_eq_getElem?_getD, List.getD_eq_getElem?_getD, List.getElem?_take, if_pos (by omega)]


set_option maxHeartbeats 2000000 in
theorem walkNo (pn least off x ecn : Int) (a : Option Addr) (L c : Nat) (h0 : W64 pn) (h1 : W64 least) (h2 : W64 off) (hL : L ≤ 9223372036854775807) (hno : ¬ MayP pn least off ecn L) (w : World) :
    Calls Try.prog 3 #[.agg #[.int .u64 pn, .int .u64 least, .int .u64 off, .int .u64 x, .int .i64 ecn, .slice a L c]] w fun e w' => e = .returned (.bool true) ∧ Below w.heap.size w w' := by
  have H0 := Lib.hid h0.1
  have H1 := Lib.hid h1.1
  have H2 := Lib.hid h2.1
  have HN := Lib.hid hno
  clear h0 h1 h2 hno
  go_enter Try.func3, Try.ntmps3
  go_wp2_with fail
  obtain ⟨w1, hw1⟩ : ∃ w1, w1 = w.alloc (.cells #[.int .u64 pn, .int .u64 least, .int .u64 off, .int .u64 x, .int .i64 ecn, .slice a L c] 25 (0, 0)) := ⟨_, rfl⟩
  have b01 : Below w.heap.size w w1 := by rw [hw1]; exact (Below.refl _ _).alloc (Nat.le_refl _) _
  have D1 : DatAt w1 w.heap.size (.int .u64 pn) (.int .u64 least) (.int .u64 off) (.int .u64 x) (.int .i64 ecn) (.slice a L c) := by rw [hw1]; exact heap_alloc_new w _
  rw [← hw1]
  clear hw1
  refine (aliveHead _).mono ?_; rintro e' w2 ⟨rfl, b12⟩
  have D2 := D1.belowB D1.lt b12
  have b02 := b01.trans (b12.mono b01.size)
  obtain ⟨d0, d1, d2, d3, d4, d5⟩ := D2.cellsV
  clear D1 b01 b12
  go_wp2_with fail
  refine (hEncodeNo pn least off x ecn a L c H0.out H1.out H2.out hL HN.out _).mono ?_; rintro e' w3 ⟨rfl, hgr⟩
  have D3 := D2.belowB D2.lt hgr.below
  have b03 := b02.trans (hgr.below.mono b02.size)
  clear D2 b02 d0 d1 d2 d3 d4 d5 hgr
  obtain ⟨d0, d1, d2, d3, d4, d5⟩ := D3.cellsV
  go_wp2_with fail
  refine (rMay pn least off x ecn a L c H0.out H1.out H2.out hL _).mono ?_; rintro e' w4 ⟨rfl, hgr⟩
  rw [decide_eq_false HN.out]
  have D4 := D3.belowB D3.lt hgr.below
  have b04 := b03.trans (hgr.below.mono b03.size)
  clear D3 b03 d0 d1 d2 d3 d4 d5 hgr
  obtain ⟨d0, d1, d2, d3, d4, d5⟩ := D4.cellsV
  go_wp2_with fail
  refine (hMay pn least off x ecn a L c H0.out H1.out H2.out hL _).mono ?_; rintro e' w5 ⟨rfl, hgr⟩
  rw [decide_eq_false HN.out]
  have b05 := b04.trans (hgr.below.mono b04.size)
  go_wp2_with fail
  go_ret
  exact ⟨rfl, b05⟩

set_option maxHeartbeats 4000000 in
theorem walkYes (pn least off x ecn : Int) (body : List Int) (g0 o0 L c : Nat) (hd : MayD ⟨pn, least, off, x, ecn, body⟩) (hL : body.length = L) (hlc : L ≤ c ∧ c ≤ 9223372036854775807) (w : World) (hB : BytesAt w g0 o0 body) :
    Calls Try.prog 3 #[.agg #[.int .u64 pn, .int .u64 least, .int .u64 off, .int .u64 x, .int .i64 ecn, .slice (some ⟨g0, o0, none⟩) L c]] w fun e w' => e = .returned (.bool true) ∧ Below w.heap.size w w' := by
  have hm := hd.may
  simp only at hm
  rw [hL] at hm
  have hpl : 0 < (putD ⟨pn, least, off, x, ecn, body⟩).length := by simp [putD]
  have H0 := Lib.hid hd.pn.1
  have H1 := Lib.hid hd.least.1
  have H2 := Lib.hid hd.off.1
  have HD := Lib.hid hd
  have HM := Lib.hid hm
  simp only at H0 H1 H2
  clear hm hd
  go_enter Try.func3, Try.ntmps3
  go_wp2_with fail
  obtain ⟨w1, hw1⟩ : ∃ w1, w1 = w.alloc (.cells #[.int .u64 pn, .int .u64 least, .int .u64 off, .int .u64 x, .int .i64 ecn, .slice (some ⟨g0, o0, none⟩) L c] 25 (0, 0)) := ⟨_, rfl⟩
  have b01 : Below w.heap.size w w1 := by rw [hw1]; exact (Below.refl _ _).alloc (Nat.le_refl _) _
  have D1 : DatAt w1 w.heap.size (.int .u64 pn) (.int .u64 least) (.int .u64 off) (.int .u64 x) (.int .i64 ecn) (.slice (some ⟨g0, o0, none⟩) L c) := by rw [hw1]; exact heap_alloc_new w _
  rw [← hw1]
  clear hw1
  have B1 := hB.below b01
  refine (aliveHead _).mono ?_; rintro e' w2 ⟨rfl, b12⟩
  have D2 := D1.belowB D1.lt b12
  have B2 := B1.below b12
  have b02 := b01.trans (b12.mono b01.size)
  obtain ⟨d0, d1, d2, d3, d4, d5⟩ := D2.cellsV
  clear D1 b01 b12 B1 hB
  go_wp2_with fail
  have CE := hEncode ⟨pn, least, off, x, ecn, body⟩ HD.out g0 o0 c (by simp only; omega) w2 B2
  have CP : ∀ w, BytesAt w g0 o0 body → _ := fun w B => rPutData ⟨pn, least, off, x, ecn, body⟩ HD.out g0 o0 c (by simp only; omega) w B
  simp only [hL, dataV] at CE CP
  obtain ⟨bs, hbs⟩ : ∃ l, l = putD ⟨pn, least, off, x, ecn, body⟩ := ⟨_, rfl⟩
  rw [← hbs] at CE CP hpl
  clear hbs
  have HCP := Lib.hid CP
  clear CP
  refine CE.mono ?_; rintro e' w3 ⟨v3, rfl, b23, own3⟩
  obtain ⟨g, q, rfl, hg, hq, hqm, E3⟩ := ownBytes own3 hpl
  have D3 := D2.belowB D2.lt b23
  have B3 := B2.below b23
  have b03 := b02.trans (b23.mono b02.size)
  clear CE own3 D2 b02 d0 d1 d2 d3 d4 d5 b23 B2
  obtain ⟨d0, d1, d2, d3, d4, d5⟩ := D3.cellsV
  go_wp2_with fail
  refine (rMay pn least off x ecn _ L c H0.out H1.out H2.out (by omega) _).mono ?_; rintro e' w4 ⟨rfl, hgr⟩
  rw [decide_eq_true HM.out]
  have D4 := D3.belowB D3.lt hgr.below
  have B4 := B3.below hgr.below
  have E4 := E3.below hgr.below
  have b04 := b03.trans (hgr.below.mono b03.size)
  clear D3 b03 d0 d1 d2 d3 d4 d5 hgr B3 E3
  go_wp2_with fail
  have bd : Below w4.heap.size w4 w4.drew := ⟨rfl, rfl, rfl, Nat.le_refl _, fun _ _ => rfl⟩
  have SD : DatAt w4.drew w.heap.size (.int .u64 pn) (.int .u64 least) (.int .u64 off) (.int .u64 x) (.int .i64 ecn) (.slice (some ⟨g0, o0, none⟩) L c) ∧ BytesAt w4.drew g0 o0 body ∧ BytesAt w4.drew g 0 bs := ⟨D4, B4.below bd, E4.below bd⟩
  have b0D := b04.trans (bd.mono b04.size)
  have bel : ∀ W W', (DatAt W w.heap.size (.int .u64 pn) (.int .u64 least) (.int .u64 off) (.int .u64 x) (.int .i64 ecn) (.slice (some ⟨g0, o0, none⟩) L c) ∧ BytesAt W g0 o0 body ∧ BytesAt W g 0 bs) → Below W.heap.size W W' → (DatAt W' w.heap.size (.int .u64 pn) (.int .u64 least) (.int .u64 off) (.int .u64 x) (.int .i64 ecn) (.slice (some ⟨g0, o0, none⟩) L c) ∧ BytesAt W' g0 o0 body ∧ BytesAt W' g 0 bs) := fun W W' h hb => ⟨h.1.belowB h.1.lt hb, h.2.1.below hb, h.2.2.below hb⟩
  have HBEL := Lib.hid bel
  clear bel bd D4 B4 E4 b04
  refine wp_region_held_drew (S := fun W => DatAt W w.heap.size (.int .u64 pn) (.int .u64 least) (.int .u64 off) (.int .u64 x) (.int .i64 ecn) (.slice (some ⟨g0, o0, none⟩) L c) ∧ BytesAt W g0 o0 body ∧ BytesAt W g 0 bs) (by kernel_rfl) SD (fun hHeld => ?_)
  generalize w4.drew = X at *
  refine wpAnyH_take (i := 0) (oi := _) (v := (.agg #[.int .u64 pn, .int .u64 least, .int .u64 off, .int .u64 x, .int .i64 ecn, .slice (some ⟨g0, o0, none⟩) L c])) rfl (by kernel_rfl) (by kernel_rfl) (by kernel_rfl) (fun _ _ _ h => h) (Or.inl ⟨by rfl, fun w hS => by obtain ⟨d0, d1, d2, d3, d4, d5⟩ := DatAt.cellsV hS.1; go_simp⟩) (by assumption) ?_
  simp [Act.put]
  refine wpAnyH_ready (rs := [1]) (by kernel_rfl) (by simp) ?_
  refine AllReadyH.cons (o := _) rfl (fun K hK => ?_) AllReadyH.nil
  go_simp
  refine (hMay pn least off x ecn _ L c H0.out H1.out H2.out (by omega) _).mono ?_; rintro e' W1 ⟨rfl, hgr⟩
  rw [decide_eq_true HM.out]
  have S1 := HBEL.out _ _ SD hgr.below
  have b1 := b0D.trans (hgr.below.mono b0D.size)
  go_simp
  refine hK.out _ _ S1 (fun hHeld1 => ?_)
  clear hK K hgr
  refine wpAnyH_take (i := 2) (oi := _) (v := (.bool true)) rfl (by kernel_rfl) (by kernel_rfl) (by kernel_rfl) (fun _ _ _ h => h) (Or.inl ⟨by rfl, fun w hS => by go_simp⟩) (by assumption) ?_
  simp [Act.put]
  refine wpAnyH_take (i := 3) (oi := _) (v := (.int .i64 0)) rfl (by kernel_rfl) (by kernel_rfl) (by kernel_rfl) (fun _ _ _ h => h) (Or.inl ⟨by rfl, fun w hS => by go_simp⟩) (by assumption) ?_
  simp [Act.put]
  refine wpAnyH_take (i := 4) (oi := _) (v := (.bool true)) rfl (by kernel_rfl) (by kernel_rfl) (by kernel_rfl) (fun _ _ _ h => h) (Or.inl ⟨by rfl, fun w hS => by go_simp⟩) (by assumption) ?_
  simp [Act.put]
  refine wpAnyH_take (i := 5) (oi := _) (v := (.bool true)) rfl (by kernel_rfl) (by kernel_rfl) (by kernel_rfl) (fun _ _ _ h => h) (Or.inl ⟨by rfl, fun w hS => by go_simp⟩) (by assumption) ?_
  simp [Act.put]
  refine wpAnyH_take (i := 6) (oi := _) (v := (.bool true)) rfl (by kernel_rfl) (by kernel_rfl) (by kernel_rfl) (fun _ _ _ h => h) (Or.inl ⟨by rfl, fun w hS => by go_simp⟩) (by assumption) ?_
  simp [Act.put]
  refine wpAnyH_take (i := 7) (oi := _) (v := (.slice (some ⟨g, 0, none⟩) bs.length q)) rfl (by kernel_rfl) (by kernel_rfl) (by kernel_rfl) (fun _ _ _ h => h) (Or.inl ⟨by rfl, fun w hS => by go_simp⟩) (by assumption) ?_
  simp [Act.put]
  refine wpAnyH_take (i := 8) (oi := _) (v := (.string (strOfNums bs))) rfl (by kernel_rfl) (by kernel_rfl) (by kernel_rfl) (fun _ _ _ h => h) (Or.inl ⟨by rfl, fun w hS => by exact exec_conv (.tmp 34) rfl g 0 bs.length q rfl bs rfl hS.2.2⟩) (by assumption) ?_
  simp [Act.put]
  refine wpAnyH_take (i := 9) (oi := _) (v := (.agg #[.int .u64 pn, .int .u64 least, .int .u64 off, .int .u64 x, .int .i64 ecn, .slice (some ⟨g0, o0, none⟩) L c])) rfl (by kernel_rfl) (by kernel_rfl) (by kernel_rfl) (fun _ _ _ h => h) (Or.inl ⟨by rfl, fun w hS => by obtain ⟨d0, d1, d2, d3, d4, d5⟩ := DatAt.cellsV hS.1; go_simp⟩) (by assumption) ?_
  simp [Act.put]
  refine wpAnyH_ready (rs := [10]) (by kernel_rfl) (by simp) ?_
  refine AllReadyH.cons (o := _) rfl (fun K hK => ?_) AllReadyH.nil
  go_simp
  refine (HCP.out _ S1.2.1).mono ?_; rintro e' W2 ⟨v2, rfl, b12, own2⟩
  obtain ⟨g2, q2, rfl, hg2, hq2, hqm2, E2⟩ := ownBytes own2 hpl
  have S2 := HBEL.out _ _ S1 b12
  have b2 := b1.trans (b12.mono b1.size)
  go_simp
  refine hK.out _ _ S2 (fun hHeld2 => ?_)
  clear hK K
  refine wpAnyH_ready (rs := [11]) (by kernel_rfl) (by simp) ?_
  refine AllReadyH.cons (o := _) rfl (fun K hK => ?_) AllReadyH.nil
  rw [if_pos (by rfl)]
  refine wp_of_exec (exec_conv (.tmp 37) rfl g2 0 bs.length q2 rfl bs rfl E2) ?_
  simp [Act.put]
  refine hK.out _ _ S2 (fun hHeld3 => ?_)
  clear hK K
  refine wpAnyH_take (i := 12) (oi := _) (v := (.bool true)) rfl (by kernel_rfl) (by kernel_rfl) (by kernel_rfl) (fun _ _ _ h => h) (Or.inl ⟨by rfl, fun w hS => by go_simp⟩) (by assumption) ?_
  simp [Act.put]
  refine wpAnyH_take (i := 13) (oi := _) (v := (.bool true)) rfl (by kernel_rfl) (by kernel_rfl) (by kernel_rfl) (fun _ _ _ h => h) (Or.inl ⟨by rfl, fun w hS => by go_simp⟩) (by assumption) ?_
  simp [Act.put]
  refine wpAnyH_take (i := 14) (oi := _) (v := (.bool true)) rfl (by kernel_rfl) (by kernel_rfl) (by kernel_rfl) (fun _ _ _ h => h) (Or.inl ⟨by rfl, fun w hS => by go_simp⟩) (by assumption) ?_
  simp [Act.put]
  refine wpAnyH_done (by kernel_rfl) ?_ _
  go_wp2_with fail
  go_ret
  exact ⟨rfl, b2⟩

theorem walk (pn least off x ecn : Int) (a : Option Addr) (len cap : Nat) (z : List Int) (w : World) (u0 : W64 pn) (u1 : W64 least) (u2 : W64 off) (u3 : W64 x) (u4 : -9223372036854775808 ≤ ecn ∧ ecn ≤ 9223372036854775807) (u5 : IsRow .u8 w a len cap z) :
    Calls Try.prog 3 #[.agg #[.int .u64 pn, .int .u64 least, .int .u64 off, .int .u64 x, .int .i64 ecn, .slice a len cap]] w fun e w' => e = .returned (.bool true) ∧ Below w.heap.size w w' := by
  obtain ⟨bs, hB, hb, hl⟩ := body_of_row u5
  have hl9 : len ≤ 9223372036854775807 := by
    rcases u5 with ⟨rfl, rfl, rfl, rfl⟩ | ⟨x, rfl, hl, hm, _⟩
    · omega
    · unfold maxLen at hm; omega
  by_cases hm : MayP pn least off ecn len
  · obtain ⟨m0, m1, m2, m3, m4, m5⟩ := hm
    rcases hB with ⟨y, c', h1, _, h3⟩ | ⟨g, o, c', h1, h2, h3, h4, h5⟩
    · injection h1 with _ h6 _
      omega
    · injection h1 with h6 h7 h8
      subst h6 h7 h8
      exact walkYes pn least off x ecn bs g o _ _ ⟨⟨u0.1, m0⟩, ⟨u1.1, m1⟩, m2, by simp only; omega, ⟨u2.1, m5⟩, u3⟩ rfl ⟨h3, h4⟩ w h5
  · exact walkNo pn least off x ecn a len cap u0 u1 u2 hl9 hm w

/-! ### the row's step -/
set_option maxRecDepth 100000 in
theorem lifted (os : Os) (started : os.Started) (H : Type) (enc : TypeId × Value → H) :
    ReturnsInHanded {} Try.checked os 3 .any (Rows.headEncodesSpec.pre6 enc Try.prog Try.f3 Rows.headEncodesRow.domain false) (Rows.headEncodesSpec.post enc Try.prog Try.f3 false true false false) := by
  refine returnsInHanded_of_change (C := Try.checked) own started (by kernel_rfl) Try.func3
    (ChangeSpec.witness6 (enc := enc) (C := Try.checked) false ⟨#[], #[.agg #[.int .u64 0, .int .u64 0, .int .u64 0, .int .u64 0, .int .i64 0, .slice none 0 0]], []⟩ 8 (by kernel_rfl) (by kernel_rfl) (by kernel_rfl) (by kernel_rfl)) ?_
  intro W base args ds gs before hval0 hW hcnd _
  have hval : ∀ (j : Nat) t v, Try.f3.params[j]? = some t → args[j]? = some v → Value.okWide Try.prog W .any base t v := hval0
  have hW' := hW
  obtain ⟨p, q, hA0, hV, rfl, hfz, hnd⟩ := hW
  have hA : DataW.TrodAll enc Try.prog W 0 (fun _ => true) true Try.f3.params.toList args.toList ds p := hA0
  rw [Try.params3] at hA hval
  obtain ⟨v0, vs0, d0, ds0, p0, q0, hargs, rfl, rfl, h0, r0⟩ := trodAll_cons hA
  obtain ⟨rfl, rfl, rfl⟩ := trodAll_nil r0
  obtain rfl : args = #[v0] := by cases args; simp_all
  obtain ⟨rfl, rfl⟩ := trodVars_none hV
  obtain ⟨cs0, rfl, hsz0⟩ := okWide_struct Try.underlying25 (hval 0 25 v0 rfl rfl)
  have k0 := h0
  have lt0 : ∀ x ∈ p0, x.block < W.heap.size := by obtain ⟨m, hm⟩ := k0; exact DataW.trod_lt m _ _ _ hm
  obtain ⟨A0, B0, C0, D0, E0, F0, G0, H0, Z0, hcs0, u0, u1, u2, u3, u4, u5⟩ : ∃ (pn least off nonce ecn : Int) (a : Option Addr) (len cap : Nat) (z : List Int), cs0 = #[.int .u64 pn, .int .u64 least, .int .u64 off, .int .u64 nonce, .int .i64 ecn, .slice a len cap] ∧
      W64 pn ∧ W64 least ∧ W64 off ∧ W64 nonce ∧ (-9223372036854775808 ≤ ecn ∧ ecn ≤ 9223372036854775807) ∧ IsRow .u8 W a len cap z := by
    obtain ⟨fuel, hf⟩ := h0
    obtain ⟨pn, least, off, nonce, ecn, a, len, cap, z, he, hr⟩ := open_data (by simpa [Value.cells] using hf)
    exact ⟨pn, least, off, nonce, ecn, a, len, cap, z, Array.toList_inj.1 he, hr⟩
  subst hcs0
  clear hA0 hval0
  refine (walk A0 B0 C0 D0 E0 F0 G0 H0 Z0 W u0 u1 u2 u3 u4 u5).mono fun e W' ⟨he, bel⟩ => ?_
  subst he
  exact ⟨_, rfl, _, _, _, [], _, [], hW', trodAll_mk1 (shut_bool Try.underlying4 _), (trodAll_cons_mk (Below.trod laidOut (by kernel_rfl) (of_decide_eq_true (by kernel_rfl)) k0 bel lt0) trodAll_mk0), rfl, bel.frame _, fun h => by cases h⟩

theorem over : Rows.headEncodesRow.holds Try.pinned (OpenSpec.ofChange Rows.headEncodesSpec) :=
  OpenClaim.holds_of_wide 3 Try.f3 rfl rfl rfl rfl rfl rfl rfl ⟨rfl, rfl, rfl, rfl, rfl⟩ rfl rfl rfl rfl rfl (by kernel_rfl) Try.func3 (by kernel_rfl)
    (of_decide_eq_true (by kernel_rfl)) (by unfold Func.isWrapper; first | (rw [if_pos (by decide +kernel)]; kernel_rfl) | (rw [if_neg (by decide +kernel)]; exact ⟨rfl, rfl⟩))
    (fun os started H enc _ => lifted os started H enc)

/-- THE STATEMENT -/
theorem proved : Rows.HeadEncodesSaid := over
end Go.Proofs.Ytofggpmllfhgaaa.headEncodes
