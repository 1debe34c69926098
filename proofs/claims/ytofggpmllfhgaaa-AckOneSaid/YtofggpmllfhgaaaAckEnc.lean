/- ack.Encode and the reference's PutAck, of any acknowledgment. -/
import Derived.Test.YtofggpmllfhgaaaMayAck
import Derived.Test.YtofggpmllfhgaaaAckRow
namespace Go.Proofs.Ytofggpmllfhgaaa
open Go.RowKit Go.Lib
set_option linter.unusedVariables false
set_option maxRecDepth 100000

theorem MayA.rows {d : AckD} (h : MayA d) : mayRows d.spans d.marked :=
  ⟨h.sl.1, h.sl.2, h.ml, (goodL_all _ 0 (Int.le_refl _) h.s).1, (goodL_all _ 0 (Int.le_refl _) h.m).1, h.ins⟩
theorem SLow.mono {w : World} {B B' : Nat} {x : Option Addr} {l : List (Int × Int)} (h : SLow w B x l) (hB : B ≤ B') : SLow w B' x l := by
  rcases h with h | ⟨g, o, h1, h2, h3⟩
  · exact .inl h
  · exact .inr ⟨g, o, h1, by omega, h3⟩

set_option maxHeartbeats 2000000 in
theorem aEncodeNo (x y : Option Addr) (cx cy : Nat) (l m : List (Int × Int)) (hwl : ∀ s ∈ l, W64 s.1 ∧ W64 s.2) (hwm : ∀ s ∈ m, W64 s.1 ∧ W64 s.2) (hll : l.length ≤ 9223372036854775807) (hml : m.length ≤ 9223372036854775807) (t r : Int) (p : Bool) (hno : ¬ mayRows l m) (w : World) (hSl : SRow w x l) (hSm : SRow w y m) :
    Calls Try.prog 28 #[.agg #[.slice x l.length cx, .slice y m.length cy, .int .u64 t, .int .u64 r, .bool p]] w fun e w' => e = .returned (.tuple #[.slice none 0 0, .int .i64 1]) ∧ Below w.heap.size w w' := by
  have C : ∀ W, SRow W x l → SRow W y m → _ := fun W Sl Sm => aMay x y cx cy l m hwl hwm hll hml t r p false ⟨fun h => by simp at h, fun h => absurd h hno⟩ W Sl Sm
  have HC := Lib.hid C
  clear C hwl hwm hno
  go_enter Try.func28, Try.ntmps28
  go_wp2_with fail
  have b00 : Below w.heap.size w (w.alloc (.cells #[.slice x l.length cx, .slice y m.length cy, .int .u64 t, .int .u64 r, .bool p] 52 (0, 0))) := (Below.refl _ _).alloc (Nat.le_refl _) _
  refine (HC.out _ (hSl.below b00) (hSm.below b00)).mono ?_; rintro e' w1 ⟨rfl, b1⟩
  have b01 := b00.trans (b1.mono b00.size)
  go_wp2_with fail
  exact bodyPost_ret (v := .tuple #[.slice none 0 0, .int .i64 1]) (by simp [results, Try.results28, go_sem]) rfl ⟨rfl, b01⟩

set_option maxHeartbeats 16000000 in
theorem aEncode (x y : Option Addr) (cx cy : Nat) (l m : List (Int × Int)) (t r : Int) (p : Bool) (hd : MayA ⟨l, m, t, r, p⟩) (w : World) (hSl : SRow w x l) (hSm : SRow w y m) :
    Calls Try.prog 28 #[.agg #[.slice x l.length cx, .slice y m.length cy, .int .u64 t, .int .u64 r, .bool p]] w fun e w' => ∃ v, e = .returned (.tuple #[v, .int .i64 0]) ∧ Below w.heap.size w w' ∧ w'.ownsRow w.heap.size 5 1 v (putAckL ⟨l, m, t, r, p⟩).length ((putAckL ⟨l, m, t, r, p⟩).map (.int .u8)) := by
  obtain ⟨i, hi', hz, hs, hbb⟩ := info_parts (P := Try.prog) (e := 5) (z := .int .u8 0) (size := 1) (bytes := 1) (by kernel_rfl)
  have hmr := hd.rows
  obtain ⟨p1, p2, p3, p4, p5, p6, p7⟩ := hd
  simp only at p1 p2 p3 p4 p5 p6 p7 hmr
  obtain ⟨_, wl, _⟩ := goodL_all l 0 (by omega) p1
  obtain ⟨_, wm, _⟩ := goodL_all m 0 (by omega) p2
  have CM : ∀ W, SRow W x l → SRow W y m → _ := fun W Sl Sm => aMay x y cx cy l m wl wm (by omega) (by omega) t r p true ⟨fun _ => hmr, fun _ => rfl⟩ W Sl Sm
  have CL : ∀ W, SRow W x l → _ := fun W Sl => aRowL x cx l p1 p3.2 W Sl
  have CK : ∀ W, SRow W y m → _ := fun W Sm => aRowL y cy m p2 p4 W Sm
  have K1 := putRowL_len l
  have K2 := putRowL_len m
  have N1 : 1 ≤ (putRowL l).length := by rw [putRowL]; simp
  have N2 : 1 ≤ (putRowL m).length := by rw [putRowL]; simp
  have hput : putAckL ⟨l, m, t, r, p⟩ = [2] ++ putRowL l ++ putRowL m ++ eightL t ++ eightL r ++ [parL p] := by simp [putAckL]
  rw [hput]
  obtain ⟨bl, hbl⟩ : ∃ b, b = putRowL l := ⟨_, rfl⟩
  obtain ⟨cl, hcl⟩ : ∃ b, b = putRowL m := ⟨_, rfl⟩
  rw [← hbl] at CL K1 N1
  rw [← hcl] at CK K2 N2
  rw [← hbl, ← hcl]
  have HCM := Lib.hid CM
  have HCL := Lib.hid CL
  have HCK := Lib.hid CK
  have HT := Lib.hid p6
  have HX := Lib.hid p7
  have el := eightL_len t
  have el2 := eightL_len r
  have k1 : bl.length ≤ 513 := by omega
  have k2 : cl.length ≤ 513 := by omega
  clear CM CL CK p1 p2 p3 p4 p5 p6 p7 hmr wl wm hput hbl hcl K1 K2
  go_enter Try.func28, Try.ntmps28
  go_wp2_with fail
  obtain ⟨w0, hw0⟩ : ∃ w0, w0 = w.alloc (.cells #[.slice x l.length cx, .slice y m.length cy, .int .u64 t, .int .u64 r, .bool p] 52 (0, 0)) := ⟨_, rfl⟩
  have b00 : Below w.heap.size w w0 := by rw [hw0]; exact (Below.refl _ _).alloc (Nat.le_refl _) _
  have A0 : AckAt w0 w.heap.size (.slice x l.length cx) (.slice y m.length cy) (.int .u64 t) (.int .u64 r) (.bool p) := by rw [hw0]; exact AckAt.alloc w _ _ _ _ _
  have SL0 := (hSl.low (Nat.le_refl _)).below b00
  have SM0 := (hSm.low (Nat.le_refl _)).below b00
  rw [← hw0]
  clear hw0 hSl hSm
  refine (HCM.out _ SL0.row SM0.row).mono ?_; rintro e' w1 ⟨rfl, hgr⟩
  have A1 := A0.belowB A0.lt hgr
  have b01 := b00.trans (hgr.mono b00.size)
  have SL1 := SL0.below (hgr.mono b00.size)
  have SM1 := SM0.below (hgr.mono b00.size)
  have t1 : w.heap.size + 1 ≤ w1.heap.size := A1.lt
  have l1 := A1.lt
  clear A0 hgr b00 SL0 SM0
  obtain ⟨d0, d1, d2, d3, d4⟩ := A1.cells.1
  go_wp2_with fail
  obtain ⟨w2, hw2⟩ : ∃ w2, w2 = w1.alloc (.cells #[.int .u8 2] 5 (0, 0)) := ⟨_, rfl⟩
  have b12 : Below w1.heap.size w1 w2 := by rw [hw2]; exact (Below.refl _ _).alloc (Nat.le_refl _) _
  have own2 : w2.ownsRow (w.heap.size + 1) 5 1 (.slice (some ⟨w1.heap.size, 0, none⟩) 1 1) 1 ([2].map (.int .u8)) := by rw [hw2]; exact World.ownsRow_lit w1 #[.int .u8 2] 1 t1 (by simp [maxLen]) rfl
  have A2 := A1.belowB A1.lt b12
  have SL2 := SL1.below (b12.mono b01.size)
  have SM2 := SM1.below (b12.mono b01.size)
  have b02 := b01.trans (b12.mono b01.size)
  have s2 := b12.size
  rw [← hw2]
  clear hw2 A1 SL1 SM1 b01 b12 d0 d1 d2 d3 d4
  obtain ⟨v2, hv2⟩ : ∃ v, v = Value.slice (some ⟨w1.heap.size, 0, none⟩) 1 1 := ⟨_, rfl⟩
  rw [← hv2] at own2 ⊢
  clear hv2
  refine (HCL.out _ SL2.row).mono ?_; rintro e' w3 ⟨v3, rfl, b23, own3⟩
  obtain ⟨g3, c3, rfl, hg3, hc3, hm3, B3⟩ := ownBytes own3 (by omega)
  have own2' := own_below own2 b23
  have A3 := A2.belowB A2.lt b23
  have SM3 := SM2.below (b23.mono b02.size)
  have b03 := b02.trans (b23.mono b02.size)
  have t3 : w.heap.size + 1 ≤ w3.heap.size := A3.lt
  clear own3 own2 A2 b02 b23 SL2 SM2
  obtain ⟨d0, d1, d2, d3, d4⟩ := A3.cells.1
  have l3 : (bl.map (Value.int .u8)).length = bl.length * 1 := by simp
  go_wp2_with (at_builtin; refine wpList_append_own _ rfl (.tmp 8) (.tmp 11) 23 rfl (w.heap.size + 1) 5 i (.int .u8 0) 1 1 Try.underlying23 hi' hz hs hbb rfl (by decide) _ 1 _ rfl own2' ⟨g3, 0, none⟩ bl.length c3 (bl.map (.int .u8)) rfl l3 B3.news (oneCell_bytes _) (by simp [maxLen]; omega) (by omega) (by omega) ?_; intro v4 w4 own4 hgrow4 hnil4; rw [← List.map_append] at own4)
  have b34 : Below (w.heap.size + 1) w3 w4 := below_grownR (Below.refl _ _) hgrow4 t3 (fun k hk => (own2'.lt k hk).1)
  have A4 := A3.belowB (Nat.lt_succ_self _) b34
  have b34' := b34.mono (Nat.le_succ w.heap.size)
  have SM4 := SM3.below b34'
  have b04 := b03.trans b34'
  clear A3 b03 own2' hgrow4 hnil4 B3 b34 b34' d0 d1 d2 d3 d4 l3 SM3
  have AD : AckAt w4.drew w.heap.size (.slice x l.length cx) (.slice y m.length cy) (.int .u64 t) (.int .u64 r) (.bool p) ∧ SLow w4.drew w.heap.size y m := ⟨A4, SM4.below ((belDrew w4).mono b04.size)⟩
  have ownD := own_below own4 (belDrew w4)
  have b0D := b04.trans ((belDrew w4).mono b04.size)
  have tD : w.heap.size + 1 ≤ w4.drew.heap.size := AD.1.lt
  clear own4 b04 A4 SM4
  refine wp_region_held_drew (S := fun W => AckAt W w.heap.size (.slice x l.length cx) (.slice y m.length cy) (.int .u64 t) (.int .u64 r) (.bool p) ∧ SLow W w.heap.size y m) (by kernel_rfl) AD (fun hHeld => ?_)
  generalize w4.drew = X at *
  refine wpAnyH_take (i := 0) (oi := _) (v := v4) rfl (by kernel_rfl) (by kernel_rfl) (by kernel_rfl) (fun _ _ _ h => h) (Or.inl ⟨by rfl, fun w hS => by go_simp⟩) (by assumption) ?_
  simp [Act.put]
  refine wpAnyH_take (i := 1) (oi := _) (v := (.pointer (some ⟨w.heap.size, 1, none⟩))) rfl (by kernel_rfl) (by kernel_rfl) (by kernel_rfl) (fun _ _ _ h => h) (Or.inl ⟨by rfl, fun w hS => by go_simp⟩) (by assumption) ?_
  simp [Act.put]
  refine wpAnyH_take (i := 2) (oi := _) (v := (.slice y m.length cy)) rfl (by kernel_rfl) (by kernel_rfl) (by kernel_rfl) (fun _ _ _ h => h) (Or.inl ⟨by rfl, fun w hS => by obtain ⟨d0, d1, d2, d3, d4⟩ := (AckAt.cells hS.1).1; go_simp⟩) (by assumption) ?_
  simp [Act.put]
  refine wpAnyH_take (i := 5) (oi := _) (v := (.pointer (some ⟨w.heap.size, 2, none⟩))) rfl (by kernel_rfl) (by kernel_rfl) (by kernel_rfl) (fun _ _ _ h => h) (Or.inl ⟨by rfl, fun w hS => by go_simp⟩) (by assumption) ?_
  simp [Act.put]
  refine wpAnyH_take (i := 6) (oi := _) (v := (.int .u64 t)) rfl (by kernel_rfl) (by kernel_rfl) (by kernel_rfl) (fun _ _ _ h => h) (Or.inl ⟨by rfl, fun w hS => by obtain ⟨d0, d1, d2, d3, d4⟩ := (AckAt.cells hS.1).1; go_simp⟩) (by assumption) ?_
  simp [Act.put]
  refine wpAnyH_take (i := 9) (oi := _) (v := (.pointer (some ⟨w.heap.size, 3, none⟩))) rfl (by kernel_rfl) (by kernel_rfl) (by kernel_rfl) (fun _ _ _ h => h) (Or.inl ⟨by rfl, fun w hS => by go_simp⟩) (by assumption) ?_
  simp [Act.put]
  refine wpAnyH_take (i := 10) (oi := _) (v := (.int .u64 r)) rfl (by kernel_rfl) (by kernel_rfl) (by kernel_rfl) (fun _ _ _ h => h) (Or.inl ⟨by rfl, fun w hS => by obtain ⟨d0, d1, d2, d3, d4⟩ := (AckAt.cells hS.1).1; go_simp⟩) (by assumption) ?_
  simp [Act.put]
  refine wpAnyH_ready (rs := [3]) (by kernel_rfl) (by simp) ?_
  refine AllReadyH.cons (o := _) rfl (fun K hK => ?_) AllReadyH.nil
  go_simp
  refine (HCK.out _ AD.2.row).mono ?_; rintro e' p0 ⟨vr0, rfl, bx0, or0⟩
  obtain ⟨gr0, cr0, rfl, _, _, _, BR0⟩ := ownBytes or0 (by omega)
  have p0own := own_below ownD bx0
  have p0S : AckAt p0 w.heap.size (.slice x l.length cx) (.slice y m.length cy) (.int .u64 t) (.int .u64 r) (.bool p) ∧ SLow p0 w.heap.size y m := ⟨AD.1.belowB AD.1.lt bx0, AD.2.below (bx0.mono b0D.size)⟩
  have p0b := b0D.trans (bx0.mono b0D.size)
  have p0t : w.heap.size + 1 ≤ p0.heap.size := p0S.1.lt
  go_simp
  refine hK.out _ _ p0S (fun hH => ?_)
  clear hK K hH
  refine wpAnyH_ready (rs := [4]) (by kernel_rfl) (by simp) ?_
  refine AllReadyH.cons (o := _) rfl (fun K hK => ?_) AllReadyH.nil
  rw [if_pos (by rfl)]
  refine wp_append_own _ (.tmp 13) (.tmp 16) 23 rfl (w.heap.size + 1) 5 i (.int .u8 0) 1 1 Try.underlying23 hi' hz hs hbb rfl (by decide) v4 (1 + bl.length) _ rfl p0own ⟨gr0, 0, none⟩ cl.length cr0 ((cl).map (.int .u8)) rfl (by simp) BR0.news (oneCell_bytes _) (by simp [maxLen]; omega) (by omega) p0t ?_
  intro vq0 q0 q0own hg0 hn0
  rw [← List.map_append] at q0own
  have by0 : Below (w.heap.size + 1) p0 q0 := below_grownR (Below.refl _ _) hg0 p0t (fun k hk => (p0own.lt k hk).1)
  have by0' := by0.mono (Nat.le_succ w.heap.size)
  have q0S : AckAt q0 w.heap.size (.slice x l.length cx) (.slice y m.length cy) (.int .u64 t) (.int .u64 r) (.bool p) ∧ SLow q0 w.heap.size y m := ⟨p0S.1.belowB (Nat.lt_succ_self _) by0, p0S.2.below by0'⟩
  have q0b := p0b.trans by0'
  have q0t : w.heap.size + 1 ≤ q0.heap.size := q0S.1.lt
  simp [Act.put]
  refine hK.out _ _ q0S (fun hH => ?_)
  clear hK K hH
  refine wpAnyH_ready (rs := [7]) (by kernel_rfl) (by simp) ?_
  refine AllReadyH.cons (o := _) rfl (fun K hK => ?_) AllReadyH.nil
  go_simp
  refine (oEightB t HT.out _).mono ?_; rintro e' p1 ⟨rfl, bx1, BR1⟩
  have p1own := own_below q0own bx1
  have p1S : AckAt p1 w.heap.size (.slice x l.length cx) (.slice y m.length cy) (.int .u64 t) (.int .u64 r) (.bool p) ∧ SLow p1 w.heap.size y m := ⟨q0S.1.belowB q0S.1.lt bx1, q0S.2.below (bx1.mono q0b.size)⟩
  have p1b := q0b.trans (bx1.mono q0b.size)
  have p1t : w.heap.size + 1 ≤ p1.heap.size := p1S.1.lt
  go_simp
  refine hK.out _ _ p1S (fun hH => ?_)
  clear hK K hH
  refine wpAnyH_ready (rs := [8]) (by kernel_rfl) (by simp) ?_
  refine AllReadyH.cons (o := _) rfl (fun K hK => ?_) AllReadyH.nil
  rw [if_pos (by rfl)]
  refine wp_append_own _ (.tmp 17) (.tmp 20) 23 rfl (w.heap.size + 1) 5 i (.int .u8 0) 1 1 Try.underlying23 hi' hz hs hbb rfl (by decide) vq0 (1 + bl.length + cl.length) _ rfl p1own ⟨q0.heap.size, 0, none⟩ 8 8 ((eightL t).map (.int .u8)) rfl (by simp [el]) BR1.news (oneCell_bytes _) (by simp [maxLen]; omega) (by omega) p1t ?_
  intro vq1 q1 q1own hg1 hn1
  rw [← List.map_append] at q1own
  have by1 : Below (w.heap.size + 1) p1 q1 := below_grownR (Below.refl _ _) hg1 p1t (fun k hk => (p1own.lt k hk).1)
  have by1' := by1.mono (Nat.le_succ w.heap.size)
  have q1S : AckAt q1 w.heap.size (.slice x l.length cx) (.slice y m.length cy) (.int .u64 t) (.int .u64 r) (.bool p) ∧ SLow q1 w.heap.size y m := ⟨p1S.1.belowB (Nat.lt_succ_self _) by1, p1S.2.below by1'⟩
  have q1b := p1b.trans by1'
  have q1t : w.heap.size + 1 ≤ q1.heap.size := q1S.1.lt
  simp [Act.put]
  refine hK.out _ _ q1S (fun hH => ?_)
  clear hK K hH
  refine wpAnyH_ready (rs := [11]) (by kernel_rfl) (by simp) ?_
  refine AllReadyH.cons (o := _) rfl (fun K hK => ?_) AllReadyH.nil
  go_simp
  refine (oEightB r HX.out _).mono ?_; rintro e' p2 ⟨rfl, bx2, BR2⟩
  have p2own := own_below q1own bx2
  have p2S : AckAt p2 w.heap.size (.slice x l.length cx) (.slice y m.length cy) (.int .u64 t) (.int .u64 r) (.bool p) ∧ SLow p2 w.heap.size y m := ⟨q1S.1.belowB q1S.1.lt bx2, q1S.2.below (bx2.mono q1b.size)⟩
  have p2b := q1b.trans (bx2.mono q1b.size)
  have p2t : w.heap.size + 1 ≤ p2.heap.size := p2S.1.lt
  go_simp
  refine hK.out _ _ p2S (fun hH => ?_)
  clear hK K hH
  refine wpAnyH_ready (rs := [12]) (by kernel_rfl) (by simp) ?_
  refine AllReadyH.cons (o := _) rfl (fun K hK => ?_) AllReadyH.nil
  rw [if_pos (by rfl)]
  refine wp_append_own _ (.tmp 21) (.tmp 24) 23 rfl (w.heap.size + 1) 5 i (.int .u8 0) 1 1 Try.underlying23 hi' hz hs hbb rfl (by decide) vq1 (1 + bl.length + cl.length + 8) _ rfl p2own ⟨q1.heap.size, 0, none⟩ 8 8 ((eightL r).map (.int .u8)) rfl (by simp [el2]) BR2.news (oneCell_bytes _) (by simp [maxLen]; omega) (by omega) p2t ?_
  intro vq2 q2 q2own hg2 hn2
  rw [← List.map_append] at q2own
  have by2 : Below (w.heap.size + 1) p2 q2 := below_grownR (Below.refl _ _) hg2 p2t (fun k hk => (p2own.lt k hk).1)
  have by2' := by2.mono (Nat.le_succ w.heap.size)
  have q2S : AckAt q2 w.heap.size (.slice x l.length cx) (.slice y m.length cy) (.int .u64 t) (.int .u64 r) (.bool p) ∧ SLow q2 w.heap.size y m := ⟨p2S.1.belowB (Nat.lt_succ_self _) by2, p2S.2.below by2'⟩
  have q2b := p2b.trans by2'
  have q2t : w.heap.size + 1 ≤ q2.heap.size := q2S.1.lt
  simp [Act.put]
  refine hK.out _ _ q2S (fun hH => ?_)
  clear hK K hH
  refine wpAnyH_take (i := 13) (oi := _) (v := vq2) rfl (by kernel_rfl) (by kernel_rfl) (by kernel_rfl) (fun _ _ _ h => h) (Or.inl ⟨by rfl, fun w hS => by go_simp⟩) (by assumption) ?_
  simp [Act.put]
  refine wpAnyH_done (by kernel_rfl) ?_ _
  obtain ⟨d0, d1, d2, d3, d4⟩ := q2S.1.cells.1
  have hlen : ([2] ++ bl ++ cl ++ eightL t ++ eightL r ++ [parL p]).length = 1 + bl.length + cl.length + 8 + 8 + 1 := by simp [el, el2]; omega
  have HLEN := Lib.hid hlen
  clear hlen
  cases p
  · go_wp2_with (at_builtin; refine wpList_append_own _ rfl (.tmp 31) (.tmp 32) 23 rfl (w.heap.size + 1) 5 i (.int .u8 0) 1 1 Try.underlying23 hi' hz hs hbb rfl (by decide) _ (1 + bl.length + cl.length + 8 + 8) _ rfl (q2own.alloc _) ⟨q2.heap.size, 0, none⟩ 1 1 [.int .u8 0] rfl rfl (news1 _ _ _) (one1 _) (by simp [maxLen]; omega) (by omega) (by simp; omega) ?_; intro vZ wZ ownZ hgrowZ hnilZ)
    have bZ : Below (w.heap.size + 1) q2 wZ := below_grownR ((Below.refl _ _).alloc q2t _) hgrowZ (by simp; omega) (fun k hk => (q2own.lt k hk).1)
    rw [show [Value.int .u8 0] = [parL false].map (Value.int .u8) from rfl, ← List.map_append] at ownZ
    refine bodyPost_ret (v := .tuple #[vZ, .int .i64 0]) (by simp [results, Try.results28, go_sem]) rfl ⟨vZ, rfl, q2b.trans (bZ.mono (Nat.le_succ _)), by have OF := own_base ownZ (Nat.le_succ _); rw [← HLEN.out] at OF; exact OF⟩
  · go_wp2_with (at_builtin; refine wpList_append_own _ rfl (.tmp 28) (.tmp 29) 23 rfl (w.heap.size + 1) 5 i (.int .u8 0) 1 1 Try.underlying23 hi' hz hs hbb rfl (by decide) _ (1 + bl.length + cl.length + 8 + 8) _ rfl (q2own.alloc _) ⟨q2.heap.size, 0, none⟩ 1 1 [.int .u8 1] rfl rfl (news1 _ _ _) (one1 _) (by simp [maxLen]; omega) (by omega) (by simp; omega) ?_; intro vZ wZ ownZ hgrowZ hnilZ)
    have bZ : Below (w.heap.size + 1) q2 wZ := below_grownR ((Below.refl _ _).alloc q2t _) hgrowZ (by simp; omega) (fun k hk => (q2own.lt k hk).1)
    rw [show [Value.int .u8 1] = [parL true].map (Value.int .u8) from rfl, ← List.map_append] at ownZ
    refine bodyPost_ret (v := .tuple #[vZ, .int .i64 0]) (by simp [results, Try.results28, go_sem]) rfl ⟨vZ, rfl, q2b.trans (bZ.mono (Nat.le_succ _)), by have OF := own_base ownZ (Nat.le_succ _); rw [← HLEN.out] at OF; exact OF⟩

set_option maxHeartbeats 8000000 in
theorem rPutAck (x y : Option Addr) (cx cy : Nat) (l m : List (Int × Int)) (t r : Int) (p : Bool) (hd : MayA ⟨l, m, t, r, p⟩) (w : World) (hSl : SRow w x l) (hSm : SRow w y m) :
    Calls Try.prog 31 #[.agg #[.slice x l.length cx, .slice y m.length cy, .int .u64 t, .int .u64 r, .bool p]] w fun e w' => ∃ v, e = .returned v ∧ Below w.heap.size w w' ∧ w'.ownsRow w.heap.size 5 1 v (putAckL ⟨l, m, t, r, p⟩).length ((putAckL ⟨l, m, t, r, p⟩).map (.int .u8)) := by
  obtain ⟨i, hi', hz, hs, hbb⟩ := info_parts (P := Try.prog) (e := 5) (z := .int .u8 0) (size := 1) (bytes := 1) (by kernel_rfl)
  obtain ⟨p1, p2, p3, p4, p5, p6, p7⟩ := hd
  simp only at p1 p2 p3 p4 p5 p6 p7
  have CL : ∀ (B : Nat) (v0 : Value) (xs : List Int), xs.length ≤ 100000 → ∀ W : World, B ≤ W.heap.size → SLow W B x l → W.ownsRow B 5 1 v0 xs.length (xs.map (.int .u8)) → _ := fun B v0 xs h W hB S own => rPutRow B v0 xs h x cx l p1 p3.2 W hB S own
  have CK : ∀ (B : Nat) (v0 : Value) (xs : List Int), xs.length ≤ 100000 → ∀ W : World, B ≤ W.heap.size → SLow W B y m → W.ownsRow B 5 1 v0 xs.length (xs.map (.int .u8)) → _ := fun B v0 xs h W hB S own => rPutRow B v0 xs h y cy m p2 p4 W hB S own
  have K1 := putRowL_len l
  have K2 := putRowL_len m
  have hput : putAckL ⟨l, m, t, r, p⟩ = [2] ++ putRowL l ++ putRowL m ++ eightL t ++ eightL r ++ [parL p] := by simp [putAckL]
  rw [hput]
  obtain ⟨bl, hbl⟩ : ∃ b, b = putRowL l := ⟨_, rfl⟩
  obtain ⟨cl, hcl⟩ : ∃ b, b = putRowL m := ⟨_, rfl⟩
  rw [← hbl] at CL K1
  rw [← hcl] at CK K2
  rw [← hbl, ← hcl]
  have HCL := Lib.hid CL
  have HCK := Lib.hid CK
  have el := eightL_len t
  have el2 := eightL_len r
  have k1 : bl.length ≤ 513 := by omega
  have k2 : cl.length ≤ 513 := by omega
  have HT := Lib.hid p6
  have HX := Lib.hid p7
  clear CL CK p1 p2 p3 p4 p5 p6 p7 hput hbl hcl K1 K2
  go_enter Try.func31, Try.ntmps31
  go_wp2_with fail
  obtain ⟨w2, hw2⟩ : ∃ w2, w2 = (w.alloc (.cells #[.slice x l.length cx, .slice y m.length cy, .int .u64 t, .int .u64 r, .bool p] 52 (0, 0))).alloc (.cells #[.int .u8 2] 5) := ⟨_, rfl⟩
  have D2 : AckAt w2 w.heap.size (.slice x l.length cx) (.slice y m.length cy) (.int .u64 t) (.int .u64 r) (.bool p) := by
    rw [hw2]
    exact (AckAt.alloc w _ _ _ _ _).belowB (by simp) ((Below.refl (w.heap.size + 1) _).alloc (by simp) _)
  have own2 : w2.ownsRow (w.heap.size + 1) 5 1 (.slice (some ⟨w.heap.size + 1, 0, none⟩) 1 1) 1 ([2].map (.int .u8)) := by
    rw [hw2]
    have := World.ownsRow_lit (base := w.heap.size + 1) (e := 5) (size := 1) (w.alloc (.cells #[.slice x l.length cx, .slice y m.length cy, .int .u64 t, .int .u64 r, .bool p] 52 (0, 0))) #[.int .u8 2] 1 (by simp) (by simp [maxLen]) rfl
    rwa [show (w.alloc (.cells #[.slice x l.length cx, .slice y m.length cy, .int .u64 t, .int .u64 r, .bool p] 52 (0, 0))).heap.size = w.heap.size + 1 by simp] at this
  have b02 : Below w.heap.size w w2 := by rw [hw2]; exact ((Below.refl _ _).alloc (Nat.le_refl _) _).alloc (by simp) _
  have SL2 := ((hSl.low (Nat.le_refl _)).below b02).mono (Nat.le_succ _)
  have SM2 := ((hSm.low (Nat.le_refl _)).below b02).mono (Nat.le_succ _)
  have t2 : w.heap.size + 1 ≤ w2.heap.size := D2.lt
  rw [← hw2]
  clear hw2 hSl hSm
  obtain ⟨v2, hv2⟩ : ∃ v, v = Value.slice (some ⟨w.heap.size + 1, 0, none⟩) 1 1 := ⟨_, rfl⟩
  rw [← hv2] at own2 ⊢
  clear hv2
  refine (HCL.out (w.heap.size + 1) v2 [2] (by simp) _ t2 SL2 own2).mono ?_; rintro e' w3 ⟨v3, rfl, b23, own3⟩
  have D3 := D2.belowB (Nat.lt_succ_self _) b23
  have SM3 := SM2.below b23
  have b03 : Below w.heap.size w w3 := b02.trans (b23.mono (by omega))
  have t3 : w.heap.size + 1 ≤ w3.heap.size := D3.lt
  clear D2 SL2 SM2 b02 own2 b23
  obtain ⟨d0, d1, d2, d3, d4⟩ := D3.cells.1
  go_wp2_with fail
  refine (HCK.out (w.heap.size + 1) v3 ([2] ++ bl) (by simp; omega) _ t3 SM3 own3).mono ?_; rintro e' w4 ⟨v4, rfl, b34, own4⟩
  have D4 := D3.belowB (Nat.lt_succ_self _) b34
  have b04 : Below w.heap.size w w4 := b03.trans (b34.mono (by omega))
  have t4 : w.heap.size + 1 ≤ w4.heap.size := D4.lt
  clear D3 SM3 b03 own3 d0 d1 d2 d3 d4 b34
  obtain ⟨d0, d1, d2, d3, d4⟩ := D4.cells.1
  have l4 : ([2] ++ bl ++ cl).length ≤ 1100 := by simp; omega
  obtain ⟨n4, hn4⟩ : ∃ n, n = ([2] ++ bl ++ cl).length := ⟨_, rfl⟩
  rw [← hn4] at own4 l4
  go_wp2_with fail
  refine (rEightOn t HT.out (w.heap.size + 1) n4 v4 ([2] ++ bl ++ cl) _ t4 (by omega) own4).mono ?_; rintro e' w5 ⟨v5, rfl, b45, own5⟩
  have D5 := D4.belowB (Nat.lt_succ_self _) b45
  have b05 : Below w.heap.size w w5 := b04.trans (b45.mono (by omega))
  have t5 : w.heap.size + 1 ≤ w5.heap.size := D5.lt
  clear D4 b04 own4 d0 d1 d2 d3 d4 b45
  obtain ⟨d0, d1, d2, d3, d4⟩ := D5.cells.1
  go_wp2_with fail
  refine (rEightOn r HX.out (w.heap.size + 1) (n4 + 8) v5 ([2] ++ bl ++ cl ++ eightL t) _ t5 (by omega) own5).mono ?_; rintro e' w6 ⟨v6, rfl, b56, own6⟩
  have D6 := D5.belowB (Nat.lt_succ_self _) b56
  have b06 : Below w.heap.size w w6 := b05.trans (b56.mono (by omega))
  have t6 : w.heap.size + 1 ≤ w6.heap.size := D6.lt
  clear D5 b05 own5 d0 d1 d2 d3 d4 b56
  obtain ⟨d0, d1, d2, d3, d4⟩ := D6.cells.1
  have hlen : ([2] ++ bl ++ cl ++ eightL t ++ eightL r ++ [parL p]).length = n4 + 8 + 8 + 1 := by rw [hn4]; simp [el, el2]; omega
  have HLEN := Lib.hid hlen
  clear hlen hn4
  cases p
  · go_wp2_with (at_builtin; refine wpList_append_own _ rfl (.tmp 25) (.tmp 26) 23 rfl (w.heap.size + 1) 5 i (.int .u8 0) 1 1 Try.underlying23 hi' hz hs hbb rfl (by decide) _ (n4 + 8 + 8) _ rfl (own6.alloc _) ⟨w6.heap.size, 0, none⟩ 1 1 [.int .u8 0] rfl rfl (news1 _ _ _) (one1 _) (by simp [maxLen]; omega) (by omega) (by simp; omega) ?_; intro vZ wZ ownZ hgrowZ hnilZ)
    have bZ : Below (w.heap.size + 1) w6 wZ := below_grownR ((Below.refl _ _).alloc t6 _) hgrowZ (by simp; omega) (fun k hk => (own6.lt k hk).1)
    rw [show [Value.int .u8 0] = [parL false].map (Value.int .u8) from rfl, ← List.map_append] at ownZ
    go_ret
    exact ⟨vZ, rfl, b06.trans (bZ.mono (Nat.le_succ _)), by have OF := own_base ownZ (Nat.le_succ _); rw [← HLEN.out] at OF; exact OF⟩
  · go_wp2_with (at_builtin; refine wpList_append_own _ rfl (.tmp 22) (.tmp 23) 23 rfl (w.heap.size + 1) 5 i (.int .u8 0) 1 1 Try.underlying23 hi' hz hs hbb rfl (by decide) _ (n4 + 8 + 8) _ rfl (own6.alloc _) ⟨w6.heap.size, 0, none⟩ 1 1 [.int .u8 1] rfl rfl (news1 _ _ _) (one1 _) (by simp [maxLen]; omega) (by omega) (by simp; omega) ?_; intro vZ wZ ownZ hgrowZ hnilZ)
    have bZ : Below (w.heap.size + 1) w6 wZ := below_grownR ((Below.refl _ _).alloc t6 _) hgrowZ (by simp; omega) (fun k hk => (own6.lt k hk).1)
    rw [show [Value.int .u8 1] = [parL true].map (Value.int .u8) from rfl, ← List.map_append] at ownZ
    go_ret
    exact ⟨vZ, rfl, b06.trans (bZ.mono (Nat.le_succ _)), by have OF := own_base ownZ (Nat.le_succ _); rw [← HLEN.out] at OF; exact OF⟩

end Go.Proofs.Ytofggpmllfhgaaa
