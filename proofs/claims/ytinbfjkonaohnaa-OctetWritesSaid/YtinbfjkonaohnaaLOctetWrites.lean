/- For all words n and x, OctetWrites returns true: Size, Put and Eight agree with the definition. No condition. -/
import Derived.Test.YtinbfjkonaohnaaBase
import Derived.Test.YtinbfjkonaohnaaAliveOctet
import Derived.Test.YtinbfjkonaohnaaRefPut
import Derived.Test.YtinbfjkonaohnaaHeld
namespace Go.Proofs.Ytinbfjkonaohnaa.octetWrites
open Go.ChangeShapes Go.WideShapes Go.ChangeAt Go.RowKit Go.Lib
set_option linter.unusedVariables false

theorem exec_conv {o : Oper} {a : Act} {w : World} (y : Operand) (ho : o.op = .convert 34 9 y) (b off len cap : Nat) (hy : a.eval y = .slice (some ⟨b, off, none⟩) len cap) (xs : List Int) (hlen : xs.length = len) (h : BytesAt w b off xs) :
    (execOp a.eval o).run Try.prog w = .ok (.value (.string (strOfNums xs))) w := by
  unfold execOp
  have hr := run_convert_bytes_arg (P := Try.prog) w 34 5 Try.underlying34 Try.underlying5 b off len cap xs hlen (fun i hi => h.2 i (by omega)) 9 Try.underlying9
  simp only [ho, hy, hr, Sem.run_bind, Sem.run_pure, Result.andThen_ok]
theorem exec_conv_nil {o : Oper} {a : Act} {w : World} (y : Operand) (ho : o.op = .convert 34 9 y) (hy : a.eval y = .slice none 0 0) :
    (execOp a.eval o).run Try.prog w = .ok (.value (.string ByteArray.empty)) w := by
  unfold execOp
  have hr := run_convert_bytes_nil (P := Try.prog) w 34 5 Try.underlying34 Try.underlying5 0 0 9 Try.underlying9
  simp only [ho, hy, hr, Sem.run_bind, Sem.run_pure, Result.andThen_ok]
theorem wp_of_exec {o : Oper} {a : Act} {w : World} {K : Act → World → Prop} {Q : Exit → Act → World → Prop} {v : Value} (h : (execOp a.eval o).run Try.prog w = .ok (.value v) w) (hk : K (a.put o.dst v) w) : o.wp Try.prog a w K Q := by
  unfold Oper.wp
  rw [h]
  exact hk

theorem rPutAny (n : Int) (h : 0 ≤ n ∧ n ≤ 4611686018427387903) (w : World) :
    Calls Try.prog 29 #[.slice none 0 0, .int .u64 n] w fun e w' => ∃ g c, e = .returned (.slice (some ⟨g, 0, none⟩) (putA n).length c) ∧ Below w.heap.size w w' ∧ BytesAt w' g 0 (putA n) := by
  by_cases h1 : n < 64
  · rw [show (putA n).length = 1 by unfold putA; rw [if_pos h1]; rfl]
    exact (rPut1 n h1 h.1 w).mono fun e w' ⟨g, c, h⟩ => ⟨g, c, h.1, h.2.1, h.2.2.2⟩
  by_cases h2 : n < 16384
  · rw [show (putA n).length = 2 by unfold putA; rw [if_neg h1, if_pos h2]; rfl]
    exact (rPut2 n (by omega) h2 w).mono fun e w' ⟨g, c, h⟩ => ⟨g, c, h.1, h.2.1, h.2.2.2⟩
  by_cases h3 : n < 1073741824
  · rw [show (putA n).length = 4 by unfold putA; rw [if_neg h1, if_neg h2, if_pos h3]; rfl]
    exact (rPut4 n (by omega) h3 w).mono fun e w' ⟨g, c, h⟩ => ⟨g, c, h.1, h.2.1, h.2.2.2⟩
  · rw [show (putA n).length = 8 by unfold putA; rw [if_neg h1, if_neg h2, if_neg h3]; rfl]
    exact (rPut8 n (by omega) h.2 w).mono fun e w' ⟨g, c, h⟩ => ⟨g, c, h.1, h.2.1, h.2.2.2⟩

theorem size_no (n : Int) (h : 4611686018427387903 < n) : sizeI n = 0 := by
  unfold sizeI
  rw [if_neg (by omega), if_neg (by omega), if_neg (by omega), if_neg (by omega)]
theorem oPutNo (n : Int) (h : 4611686018427387903 < n) (w : World) :
    Calls Try.prog 24 #[.int .u64 n] w fun e w' => e = .returned (.tuple #[.slice none 0 0, .bool false]) ∧ w = w' := by
  have hs := size_no n h
  go_enter Try.func24, Try.ntmps24
  go_wp2_with fail
  refine (oSize n _).mono ?_; rintro e' w' ⟨rfl, rfl⟩
  rw [hs]
  go_wp2_with fail
  exact bodyPost_ret (v := .tuple #[.slice none 0 0, .bool false]) (by simp [results, Try.results24, go_sem]) rfl ⟨rfl, rfl⟩
theorem rPutNo (n : Int) (h : 4611686018427387903 < n) (w : World) :
    Calls Try.prog 29 #[.slice none 0 0, .int .u64 n] w fun e w' => e = .returned (.slice none 0 0) ∧ w = w' := by
  have hs := size_no n h
  go_enter Try.func29, Try.ntmps29
  go_wp2_with fail
  refine (rSize n _).mono ?_; rintro e' w' ⟨rfl, rfl⟩
  rw [hs]
  go_wp2_with fail
  refine wp_loop_rounds 1 ?_
  rw [rounds_succ]
  go_wp2_with fail
  refine wp_loop_rounds 1 ?_
  rw [rounds_succ]
  go_wp2_with fail
  go_ret
  exact ⟨rfl, rfl⟩

set_option maxHeartbeats 8000000 in
theorem walkSome (n x : Int) (hn : 0 ≤ n ∧ n ≤ 4611686018427387903) (hx : W64 x) (w : World) :
    Calls Try.prog 10 #[.int .u64 n, .int .u64 x] w fun e w' => e = .returned (.bool true) ∧ Below w.heap.size w w' := by
  have HN := Lib.hid hn
  have HX := Lib.hid hx
  have hle : decide (n ≤ 4611686018427387903) = true := by exact decide_eq_true hn.2
  clear hn hx
  go_enter Try.func10, Try.ntmps10
  go_wp2_with fail
  refine (aliveOctet _).mono ?_; rintro e' w1 ⟨rfl, b1⟩
  have s1 := b1.size
  go_wp2_with fail
  refine (oPut n HN.out _).mono ?_; rintro e' w2 ⟨rfl, ⟨cs, hcs⟩, B1⟩
  have b2 : Below w1.heap.size w1 w2 := by rw [hcs]; exact (Below.refl _ _).alloc (Nat.le_refl _) _
  clear hcs
  have s2 := b2.size
  go_wp2_with fail
  have B2 : BytesAt w2.drew w1.heap.size 0 (putA n) := ⟨B1.1, B1.2⟩
  have b3 : Below w2.heap.size w2 w2.drew := ⟨rfl, rfl, rfl, Nat.le_refl _, fun _ _ => rfl⟩
  refine wp_region_held_drew (S := fun W => BytesAt W w1.heap.size 0 (putA n)) (by kernel_rfl) B2 (fun hHeld => ?_)
  have bCW0 : Below w.heap.size w w2.drew := b1.trans ((b2.mono (by omega)).trans (b3.mono (by omega)))
  clear B1 B2 b2 b3
  generalize w2.drew = W at *
  refine wpAnyH_take (i := 0) (oi := _) (v := (.bool true)) rfl (by kernel_rfl) (by kernel_rfl) (by kernel_rfl) (fun _ _ _ h => h) (Or.inl ⟨by rfl, fun w hS => by go_simp⟩) (by assumption) ?_
  simp [Act.put]
  refine wpAnyH_take (i := 1) (oi := _) (v := (.int .u64 n)) rfl (by kernel_rfl) (by kernel_rfl) (by kernel_rfl) (fun _ _ _ h => h) (Or.inl ⟨by rfl, fun w hS => by go_simp⟩) (by assumption) ?_
  simp [Act.put]
  refine wpAnyH_take (i := 2) (oi := _) (v := (.bool true)) rfl (by kernel_rfl) (by kernel_rfl) (by kernel_rfl) (fun _ _ _ h => h) (Or.inl ⟨by rfl, fun w hS => by go_simp⟩) (by assumption) ?_
  simp [Act.put]
  refine wpAnyH_take (i := 3) (oi := _) (v := (.bool true)) rfl (by kernel_rfl) (by kernel_rfl) (by kernel_rfl) (fun _ _ _ h => h) (Or.inl ⟨by rfl, fun w hS => by go_simp⟩) (by assumption) ?_
  simp [Act.put]
  refine wpAnyH_take (i := 4) (oi := _) (v := (.bool true)) rfl (by kernel_rfl) (by kernel_rfl) (by kernel_rfl) (fun _ _ _ h => h) (Or.inl ⟨by rfl, fun w hS => by go_simp⟩) (by assumption) ?_
  simp [Act.put]
  refine wpAnyH_take (i := 5) (oi := _) (v := (.slice (some ⟨w1.heap.size, 0, none⟩) (putA n).length (putA n).length)) rfl (by kernel_rfl) (by kernel_rfl) (by kernel_rfl) (fun _ _ _ h => h) (Or.inl ⟨by rfl, fun w hS => by go_simp⟩) (by assumption) ?_
  simp [Act.put]
  refine wpAnyH_take (i := 6) (oi := _) (v := (.string (strOfNums (putA n)))) rfl (by kernel_rfl) (by kernel_rfl) (by kernel_rfl) (fun _ _ _ h => h) (Or.inl ⟨by rfl, fun w hS => by exact exec_conv (.tmp 19) rfl w1.heap.size 0 _ _ rfl (putA n) rfl hS⟩) (by assumption) ?_
  simp [Act.put]
  refine wpAnyH_take (i := 7) (oi := _) (v := (.int .u64 n)) rfl (by kernel_rfl) (by kernel_rfl) (by kernel_rfl) (fun _ _ _ h => h) (Or.inl ⟨by rfl, fun w hS => by go_simp⟩) (by assumption) ?_
  simp [Act.put]
  refine wpAnyH_ready (rs := [8]) (by kernel_rfl) (by simp) ?_
  refine AllReadyH.cons (o := _) rfl (fun K hK => ?_) AllReadyH.nil
  go_simp
  refine (rPutAny n HN.out _).mono ?_; rintro e' W1 ⟨g, c, rfl, bW1, BR⟩
  go_simp
  refine hK.out _ _ (BytesAt.below ‹BytesAt _ w1.heap.size 0 (putA n)› bW1) (fun hHeld => ?_)
  clear hK K
  have bCW : Below w.heap.size w W1 := by have q0 := bCW0.size; exact bCW0.trans (bW1.mono (by omega))
  refine wpAnyH_ready (rs := [9]) (by kernel_rfl) (by simp) ?_
  refine AllReadyH.cons (o := _) rfl (fun K hK => ?_) AllReadyH.nil
  rw [if_pos (by rfl)]
  refine wp_of_exec (exec_conv (.tmp 22) rfl g 0 _ c rfl (putA n) rfl BR) ?_
  simp [Act.put]
  refine hK.out _ _ ‹BytesAt _ w1.heap.size 0 (putA n)› (fun hHeld => ?_)
  clear hK K
  refine wpAnyH_take (i := 10) (oi := _) (v := (.bool true)) rfl (by kernel_rfl) (by kernel_rfl) (by kernel_rfl) (fun _ _ _ h => h) (Or.inl ⟨by rfl, fun w hS => by go_simp⟩) (by assumption) ?_
  simp [Act.put]
  refine wpAnyH_take (i := 11) (oi := _) (v := (.bool true)) rfl (by kernel_rfl) (by kernel_rfl) (by kernel_rfl) (fun _ _ _ h => h) (Or.inl ⟨by rfl, fun w hS => by go_simp⟩) (by assumption) ?_
  simp [Act.put]
  refine wpAnyH_take (i := 12) (oi := _) (v := (.bool true)) rfl (by kernel_rfl) (by kernel_rfl) (by kernel_rfl) (fun _ _ _ h => h) (Or.inl ⟨by rfl, fun w hS => by go_simp⟩) (by assumption) ?_
  simp [Act.put]
  refine wpAnyH_take (i := 13) (oi := _) (v := (.int .u64 n)) rfl (by kernel_rfl) (by kernel_rfl) (by kernel_rfl) (fun _ _ _ h => h) (Or.inl ⟨by rfl, fun w hS => by go_simp⟩) (by assumption) ?_
  simp [Act.put]
  refine wpAnyH_take (i := 15) (oi := _) (v := (.int .u64 n)) rfl (by kernel_rfl) (by kernel_rfl) (by kernel_rfl) (fun _ _ _ h => h) (Or.inl ⟨by rfl, fun w hS => by go_simp⟩) (by assumption) ?_
  simp [Act.put]
  refine wpAnyH_ready (rs := [14]) (by kernel_rfl) (by simp) ?_
  refine AllReadyH.cons (o := _) rfl (fun K hK => ?_) AllReadyH.nil
  go_simp
  refine (oSize n _).mono ?_; rintro e' w' ⟨rfl, rfl⟩
  go_simp
  refine hK.out _ _ ‹BytesAt _ w1.heap.size 0 (putA n)› (fun hHeld => ?_)
  clear hK K
  refine wpAnyH_ready (rs := [16]) (by kernel_rfl) (by simp) ?_
  refine AllReadyH.cons (o := _) rfl (fun K hK => ?_) AllReadyH.nil
  go_simp
  refine (rSize n _).mono ?_; rintro e' w' ⟨rfl, rfl⟩
  go_simp
  refine hK.out _ _ ‹BytesAt _ w1.heap.size 0 (putA n)› (fun hHeld => ?_)
  clear hK K
  refine wpAnyH_take (i := 17) (oi := _) (v := (.bool true)) rfl (by kernel_rfl) (by kernel_rfl) (by kernel_rfl) (fun _ _ _ h => h) (Or.inl ⟨by rfl, fun w hS => by go_simp⟩) (by assumption) ?_
  simp [Act.put]
  refine wpAnyH_take (i := 18) (oi := _) (v := (.bool true)) rfl (by kernel_rfl) (by kernel_rfl) (by kernel_rfl) (fun _ _ _ h => h) (Or.inl ⟨by rfl, fun w hS => by go_simp⟩) (by assumption) ?_
  simp [Act.put]
  refine wpAnyH_take (i := 19) (oi := _) (v := (.bool true)) rfl (by kernel_rfl) (by kernel_rfl) (by kernel_rfl) (fun _ _ _ h => h) (Or.inl ⟨by rfl, fun w hS => by go_simp⟩) (by assumption) ?_
  simp [Act.put]
  refine wpAnyH_take (i := 20) (oi := _) (v := (.int .u64 x)) rfl (by kernel_rfl) (by kernel_rfl) (by kernel_rfl) (fun _ _ _ h => h) (Or.inl ⟨by rfl, fun w hS => by go_simp⟩) (by assumption) ?_
  simp [Act.put]
  refine wpAnyH_take (i := 23) (oi := _) (v := (.int .u64 x)) rfl (by kernel_rfl) (by kernel_rfl) (by kernel_rfl) (fun _ _ _ h => h) (Or.inl ⟨by rfl, fun w hS => by go_simp⟩) (by assumption) ?_
  simp [Act.put]
  refine wpAnyH_ready (rs := [21]) (by kernel_rfl) (by simp) ?_
  refine AllReadyH.cons (o := _) rfl (fun K hK => ?_) AllReadyH.nil
  go_simp
  refine (oEightB x HX.out _).mono ?_; rintro e' WE ⟨rfl, bE, BE⟩
  go_simp
  refine hK.out _ _ (BytesAt.below ‹BytesAt _ w1.heap.size 0 (putA n)› bE) (fun hHeld => ?_)
  clear hK K
  refine wpAnyH_ready (rs := [22, 24]) (by kernel_rfl) (by simp) ?_
  refine AllReadyH.cons (o := _) rfl (fun K hK => ?_) (AllReadyH.cons (o := _) rfl (fun K hK => ?_) AllReadyH.nil)
  · rw [if_pos (by rfl)]
    refine wp_of_exec (exec_conv (.tmp 35) rfl W1.heap.size 0 8 8 rfl (eightL x) rfl BE) ?_
    simp [Act.put]
    refine hK.out _ _ ‹BytesAt _ w1.heap.size 0 (putA n)› (fun hHeld => ?_)
    clear hK K
    refine wpAnyH_ready (rs := [24]) (by kernel_rfl) (by simp) ?_
    refine AllReadyH.cons (o := _) rfl (fun K hK => ?_) AllReadyH.nil
    go_simp
    refine (rEight x HX.out _).mono ?_; rintro e' WF ⟨gf, cf, rfl, bF, hgf, BF⟩
    go_simp
    refine hK.out _ _ (BytesAt.below ‹BytesAt _ w1.heap.size 0 (putA n)› bF) (fun hHeld => ?_)
    clear hK K
    refine wpAnyH_ready (rs := [25]) (by kernel_rfl) (by simp) ?_
    refine AllReadyH.cons (o := _) rfl (fun K hK => ?_) AllReadyH.nil
    rw [if_pos (by rfl)]
    refine wp_of_exec (exec_conv (.tmp 38) rfl gf 0 8 cf rfl (eightL x) rfl BF) ?_
    simp [Act.put]
    refine hK.out _ _ ‹BytesAt _ w1.heap.size 0 (putA n)› (fun hHeld => ?_)
    clear hK K
    refine wpAnyH_take (i := 26) (oi := _) (v := (.bool true)) rfl (by kernel_rfl) (by kernel_rfl) (by kernel_rfl) (fun _ _ _ h => h) (Or.inl ⟨by rfl, fun w hS => by go_simp⟩) (by assumption) ?_
    simp [Act.put]
    refine wpAnyH_take (i := 27) (oi := _) (v := (.bool true)) rfl (by kernel_rfl) (by kernel_rfl) (by kernel_rfl) (fun _ _ _ h => h) (Or.inl ⟨by rfl, fun w hS => by go_simp⟩) (by assumption) ?_
    simp [Act.put]
    refine wpAnyH_take (i := 28) (oi := _) (v := (.bool true)) rfl (by kernel_rfl) (by kernel_rfl) (by kernel_rfl) (fun _ _ _ h => h) (Or.inl ⟨by rfl, fun w hS => by go_simp⟩) (by assumption) ?_
    simp [Act.put]
    refine wpAnyH_done (by kernel_rfl) ?_ _
    go_wp2_with fail
    go_ret
    exact ⟨rfl, by have q1 := bCW.size; have qbE := bE.size; have qbF := bF.size; exact bCW.trans ((bE.mono (by omega)).trans ((bF.mono (by omega)).trans (Below.refl _ _)))⟩
  · go_simp
    refine (rEight x HX.out _).mono ?_; rintro e' WF ⟨gf, cf, rfl, bF, hgf, BF⟩
    go_simp
    refine hK.out _ _ (BytesAt.below ‹BytesAt _ w1.heap.size 0 (putA n)› bF) (fun hHeld => ?_)
    clear hK K
    have BE2 := BytesAt.below BE bF
    refine wpAnyH_ready (rs := [22, 25]) (by kernel_rfl) (by simp) ?_
    refine AllReadyH.cons (o := _) rfl (fun K hK => ?_) (AllReadyH.cons (o := _) rfl (fun K hK => ?_) AllReadyH.nil)
    · rw [if_pos (by rfl)]
      refine wp_of_exec (exec_conv (.tmp 35) rfl W1.heap.size 0 8 8 rfl (eightL x) rfl BE2) ?_
      simp [Act.put]
      refine hK.out _ _ ‹BytesAt _ w1.heap.size 0 (putA n)› (fun hHeld => ?_)
      clear hK K
      refine wpAnyH_ready (rs := [25]) (by kernel_rfl) (by simp) ?_
      refine AllReadyH.cons (o := _) rfl (fun K hK => ?_) AllReadyH.nil
      rw [if_pos (by rfl)]
      refine wp_of_exec (exec_conv (.tmp 38) rfl gf 0 8 cf rfl (eightL x) rfl BF) ?_
      simp [Act.put]
      refine hK.out _ _ ‹BytesAt _ w1.heap.size 0 (putA n)› (fun hHeld => ?_)
      clear hK K
      refine wpAnyH_take (i := 26) (oi := _) (v := (.bool true)) rfl (by kernel_rfl) (by kernel_rfl) (by kernel_rfl) (fun _ _ _ h => h) (Or.inl ⟨by rfl, fun w hS => by go_simp⟩) (by assumption) ?_
      simp [Act.put]
      refine wpAnyH_take (i := 27) (oi := _) (v := (.bool true)) rfl (by kernel_rfl) (by kernel_rfl) (by kernel_rfl) (fun _ _ _ h => h) (Or.inl ⟨by rfl, fun w hS => by go_simp⟩) (by assumption) ?_
      simp [Act.put]
      refine wpAnyH_take (i := 28) (oi := _) (v := (.bool true)) rfl (by kernel_rfl) (by kernel_rfl) (by kernel_rfl) (fun _ _ _ h => h) (Or.inl ⟨by rfl, fun w hS => by go_simp⟩) (by assumption) ?_
      simp [Act.put]
      refine wpAnyH_done (by kernel_rfl) ?_ _
      go_wp2_with fail
      go_ret
      exact ⟨rfl, by have q1 := bCW.size; have qbE := bE.size; have qbF := bF.size; exact bCW.trans ((bE.mono (by omega)).trans ((bF.mono (by omega)).trans (Below.refl _ _)))⟩
    · rw [if_pos (by rfl)]
      refine wp_of_exec (exec_conv (.tmp 38) rfl gf 0 8 cf rfl (eightL x) rfl BF) ?_
      simp [Act.put]
      refine hK.out _ _ ‹BytesAt _ w1.heap.size 0 (putA n)› (fun hHeld => ?_)
      clear hK K
      refine wpAnyH_ready (rs := [22]) (by kernel_rfl) (by simp) ?_
      refine AllReadyH.cons (o := _) rfl (fun K hK => ?_) AllReadyH.nil
      rw [if_pos (by rfl)]
      refine wp_of_exec (exec_conv (.tmp 35) rfl W1.heap.size 0 8 8 rfl (eightL x) rfl BE2) ?_
      simp [Act.put]
      refine hK.out _ _ ‹BytesAt _ w1.heap.size 0 (putA n)› (fun hHeld => ?_)
      clear hK K
      refine wpAnyH_take (i := 26) (oi := _) (v := (.bool true)) rfl (by kernel_rfl) (by kernel_rfl) (by kernel_rfl) (fun _ _ _ h => h) (Or.inl ⟨by rfl, fun w hS => by go_simp⟩) (by assumption) ?_
      simp [Act.put]
      refine wpAnyH_take (i := 27) (oi := _) (v := (.bool true)) rfl (by kernel_rfl) (by kernel_rfl) (by kernel_rfl) (fun _ _ _ h => h) (Or.inl ⟨by rfl, fun w hS => by go_simp⟩) (by assumption) ?_
      simp [Act.put]
      refine wpAnyH_take (i := 28) (oi := _) (v := (.bool true)) rfl (by kernel_rfl) (by kernel_rfl) (by kernel_rfl) (fun _ _ _ h => h) (Or.inl ⟨by rfl, fun w hS => by go_simp⟩) (by assumption) ?_
      simp [Act.put]
      refine wpAnyH_done (by kernel_rfl) ?_ _
      go_wp2_with fail
      go_ret
      exact ⟨rfl, by have q1 := bCW.size; have qbE := bE.size; have qbF := bF.size; exact bCW.trans ((bE.mono (by omega)).trans ((bF.mono (by omega)).trans (Below.refl _ _)))⟩

set_option maxHeartbeats 8000000 in
theorem walkNo (n x : Int) (hn : 4611686018427387903 < n) (hx : W64 x) (w : World) :
    Calls Try.prog 10 #[.int .u64 n, .int .u64 x] w fun e w' => e = .returned (.bool true) ∧ Below w.heap.size w w' := by
  have HN := Lib.hid hn
  have HX := Lib.hid hx
  have hle : decide (n ≤ 4611686018427387903) = false := by rw [decide_eq_false_iff_not]; omega
  clear hn hx
  go_enter Try.func10, Try.ntmps10
  go_wp2_with fail
  refine (aliveOctet _).mono ?_; rintro e' w1 ⟨rfl, b1⟩
  have s1 := b1.size
  go_wp2_with fail
  refine (oPutNo n HN.out _).mono ?_; rintro e' w2 ⟨rfl, rfl⟩
  go_wp2_with fail
  have b3 : Below w1.heap.size w1 w1.drew := ⟨rfl, rfl, rfl, Nat.le_refl _, fun _ _ => rfl⟩
  refine wp_region_held_drew (S := fun _ => True) (by kernel_rfl) trivial (fun hHeld => ?_)
  have bCW0 : Below w.heap.size w w1.drew := b1.trans (b3.mono (by omega))
  clear b3
  generalize w1.drew = W at *
  have bCW := bCW0
  refine wpAnyH_take (i := 0) (oi := _) (v := (.bool false)) rfl (by kernel_rfl) (by kernel_rfl) (by kernel_rfl) (fun _ _ _ h => h) (Or.inl ⟨by rfl, fun w hS => by go_simp⟩) (by assumption) ?_
  simp [Act.put]
  refine wpAnyH_take (i := 1) (oi := _) (v := (.int .u64 n)) rfl (by kernel_rfl) (by kernel_rfl) (by kernel_rfl) (fun _ _ _ h => h) (Or.inl ⟨by rfl, fun w hS => by go_simp⟩) (by assumption) ?_
  simp [Act.put]
  refine wpAnyH_take (i := 2) (oi := _) (v := (.bool false)) rfl (by kernel_rfl) (by kernel_rfl) (by kernel_rfl) (fun _ _ _ h => h) (Or.inl ⟨by rfl, fun w hS => by go_simp⟩) (by assumption) ?_
  simp [Act.put]
  refine wpAnyH_take (i := 3) (oi := _) (v := (.bool true)) rfl (by kernel_rfl) (by kernel_rfl) (by kernel_rfl) (fun _ _ _ h => h) (Or.inl ⟨by rfl, fun w hS => by go_simp⟩) (by assumption) ?_
  simp [Act.put]
  refine wpAnyH_take (i := 4) (oi := _) (v := (.bool true)) rfl (by kernel_rfl) (by kernel_rfl) (by kernel_rfl) (fun _ _ _ h => h) (Or.inl ⟨by rfl, fun w hS => by go_simp⟩) (by assumption) ?_
  simp [Act.put]
  refine wpAnyH_take (i := 5) (oi := _) (v := (.slice none 0 0)) rfl (by kernel_rfl) (by kernel_rfl) (by kernel_rfl) (fun _ _ _ h => h) (Or.inl ⟨by rfl, fun w hS => by go_simp⟩) (by assumption) ?_
  simp [Act.put]
  refine wpAnyH_take (i := 6) (oi := _) (v := (.string ByteArray.empty)) rfl (by kernel_rfl) (by kernel_rfl) (by kernel_rfl) (fun _ _ _ h => h) (Or.inl ⟨by rfl, fun w hS => by exact exec_conv_nil (.tmp 19) rfl rfl⟩) (by assumption) ?_
  simp [Act.put]
  refine wpAnyH_take (i := 7) (oi := _) (v := (.int .u64 n)) rfl (by kernel_rfl) (by kernel_rfl) (by kernel_rfl) (fun _ _ _ h => h) (Or.inl ⟨by rfl, fun w hS => by go_simp⟩) (by assumption) ?_
  simp [Act.put]
  refine wpAnyH_ready (rs := [8]) (by kernel_rfl) (by simp) ?_
  refine AllReadyH.cons (o := _) rfl (fun K hK => ?_) AllReadyH.nil
  go_simp
  refine (rPutNo n HN.out _).mono ?_; rintro e' w' ⟨rfl, rfl⟩
  go_simp
  refine hK.out _ _ trivial (fun hHeld => ?_)
  clear hK K
  refine wpAnyH_ready (rs := [9]) (by kernel_rfl) (by simp) ?_
  refine AllReadyH.cons (o := _) rfl (fun K hK => ?_) AllReadyH.nil
  rw [if_pos (by rfl)]
  refine wp_of_exec (exec_conv_nil (.tmp 22) rfl rfl) ?_
  simp [Act.put]
  refine hK.out _ _ trivial (fun hHeld => ?_)
  clear hK K
  refine wpAnyH_take (i := 10) (oi := _) (v := (.bool true)) rfl (by kernel_rfl) (by kernel_rfl) (by kernel_rfl) (fun _ _ _ h => h) (Or.inl ⟨by rfl, fun w hS => by go_simp⟩) (by assumption) ?_
  simp [Act.put]
  refine wpAnyH_take (i := 11) (oi := _) (v := (.bool true)) rfl (by kernel_rfl) (by kernel_rfl) (by kernel_rfl) (fun _ _ _ h => h) (Or.inl ⟨by rfl, fun w hS => by go_simp⟩) (by assumption) ?_
  simp [Act.put]
  refine wpAnyH_take (i := 12) (oi := _) (v := (.bool true)) rfl (by kernel_rfl) (by kernel_rfl) (by kernel_rfl) (fun _ _ _ h => h) (Or.inl ⟨by rfl, fun w hS => by go_simp⟩) (by assumption) ?_
  simp [Act.put]
  refine wpAnyH_take (i := 13) (oi := _) (v := (.int .u64 n)) rfl (by kernel_rfl) (by kernel_rfl) (by kernel_rfl) (fun _ _ _ h => h) (Or.inl ⟨by rfl, fun w hS => by go_simp⟩) (by assumption) ?_
  simp [Act.put]
  refine wpAnyH_take (i := 15) (oi := _) (v := (.int .u64 n)) rfl (by kernel_rfl) (by kernel_rfl) (by kernel_rfl) (fun _ _ _ h => h) (Or.inl ⟨by rfl, fun w hS => by go_simp⟩) (by assumption) ?_
  simp [Act.put]
  refine wpAnyH_ready (rs := [14]) (by kernel_rfl) (by simp) ?_
  refine AllReadyH.cons (o := _) rfl (fun K hK => ?_) AllReadyH.nil
  go_simp
  refine (oSize n _).mono ?_; rintro e' w' ⟨rfl, rfl⟩
  go_simp
  refine hK.out _ _ trivial (fun hHeld => ?_)
  clear hK K
  refine wpAnyH_ready (rs := [16]) (by kernel_rfl) (by simp) ?_
  refine AllReadyH.cons (o := _) rfl (fun K hK => ?_) AllReadyH.nil
  go_simp
  refine (rSize n _).mono ?_; rintro e' w' ⟨rfl, rfl⟩
  go_simp
  refine hK.out _ _ trivial (fun hHeld => ?_)
  clear hK K
  refine wpAnyH_take (i := 17) (oi := _) (v := (.bool true)) rfl (by kernel_rfl) (by kernel_rfl) (by kernel_rfl) (fun _ _ _ h => h) (Or.inl ⟨by rfl, fun w hS => by go_simp⟩) (by assumption) ?_
  simp [Act.put]
  refine wpAnyH_take (i := 18) (oi := _) (v := (.bool true)) rfl (by kernel_rfl) (by kernel_rfl) (by kernel_rfl) (fun _ _ _ h => h) (Or.inl ⟨by rfl, fun w hS => by go_simp⟩) (by assumption) ?_
  simp [Act.put]
  refine wpAnyH_take (i := 19) (oi := _) (v := (.bool true)) rfl (by kernel_rfl) (by kernel_rfl) (by kernel_rfl) (fun _ _ _ h => h) (Or.inl ⟨by rfl, fun w hS => by go_simp⟩) (by assumption) ?_
  simp [Act.put]
  refine wpAnyH_take (i := 20) (oi := _) (v := (.int .u64 x)) rfl (by kernel_rfl) (by kernel_rfl) (by kernel_rfl) (fun _ _ _ h => h) (Or.inl ⟨by rfl, fun w hS => by go_simp⟩) (by assumption) ?_
  simp [Act.put]
  refine wpAnyH_take (i := 23) (oi := _) (v := (.int .u64 x)) rfl (by kernel_rfl) (by kernel_rfl) (by kernel_rfl) (fun _ _ _ h => h) (Or.inl ⟨by rfl, fun w hS => by go_simp⟩) (by assumption) ?_
  simp [Act.put]
  refine wpAnyH_ready (rs := [21]) (by kernel_rfl) (by simp) ?_
  refine AllReadyH.cons (o := _) rfl (fun K hK => ?_) AllReadyH.nil
  go_simp
  refine (oEightB x HX.out _).mono ?_; rintro e' WE ⟨rfl, bE, BE⟩
  go_simp
  refine hK.out _ _ trivial (fun hHeld => ?_)
  clear hK K
  refine wpAnyH_ready (rs := [22, 24]) (by kernel_rfl) (by simp) ?_
  refine AllReadyH.cons (o := _) rfl (fun K hK => ?_) (AllReadyH.cons (o := _) rfl (fun K hK => ?_) AllReadyH.nil)
  · rw [if_pos (by rfl)]
    refine wp_of_exec (exec_conv (.tmp 35) rfl W.heap.size 0 8 8 rfl (eightL x) rfl BE) ?_
    simp [Act.put]
    refine hK.out _ _ trivial (fun hHeld => ?_)
    clear hK K
    refine wpAnyH_ready (rs := [24]) (by kernel_rfl) (by simp) ?_
    refine AllReadyH.cons (o := _) rfl (fun K hK => ?_) AllReadyH.nil
    go_simp
    refine (rEight x HX.out _).mono ?_; rintro e' WF ⟨gf, cf, rfl, bF, hgf, BF⟩
    go_simp
    refine hK.out _ _ trivial (fun hHeld => ?_)
    clear hK K
    refine wpAnyH_ready (rs := [25]) (by kernel_rfl) (by simp) ?_
    refine AllReadyH.cons (o := _) rfl (fun K hK => ?_) AllReadyH.nil
    rw [if_pos (by rfl)]
    refine wp_of_exec (exec_conv (.tmp 38) rfl gf 0 8 cf rfl (eightL x) rfl BF) ?_
    simp [Act.put]
    refine hK.out _ _ trivial (fun hHeld => ?_)
    clear hK K
    refine wpAnyH_take (i := 26) (oi := _) (v := (.bool true)) rfl (by kernel_rfl) (by kernel_rfl) (by kernel_rfl) (fun _ _ _ h => h) (Or.inl ⟨by rfl, fun w hS => by go_simp⟩) (by assumption) ?_
    simp [Act.put]
    refine wpAnyH_take (i := 27) (oi := _) (v := (.bool true)) rfl (by kernel_rfl) (by kernel_rfl) (by kernel_rfl) (fun _ _ _ h => h) (Or.inl ⟨by rfl, fun w hS => by go_simp⟩) (by assumption) ?_
    simp [Act.put]
    refine wpAnyH_take (i := 28) (oi := _) (v := (.bool true)) rfl (by kernel_rfl) (by kernel_rfl) (by kernel_rfl) (fun _ _ _ h => h) (Or.inl ⟨by rfl, fun w hS => by go_simp⟩) (by assumption) ?_
    simp [Act.put]
    refine wpAnyH_done (by kernel_rfl) ?_ _
    go_wp2_with fail
    go_ret
    exact ⟨rfl, by have q1 := bCW.size; have qbE := bE.size; have qbF := bF.size; exact bCW.trans ((bE.mono (by omega)).trans ((bF.mono (by omega)).trans (Below.refl _ _)))⟩
  · go_simp
    refine (rEight x HX.out _).mono ?_; rintro e' WF ⟨gf, cf, rfl, bF, hgf, BF⟩
    go_simp
    refine hK.out _ _ trivial (fun hHeld => ?_)
    clear hK K
    have BE2 := BytesAt.below BE bF
    refine wpAnyH_ready (rs := [22, 25]) (by kernel_rfl) (by simp) ?_
    refine AllReadyH.cons (o := _) rfl (fun K hK => ?_) (AllReadyH.cons (o := _) rfl (fun K hK => ?_) AllReadyH.nil)
    · rw [if_pos (by rfl)]
      refine wp_of_exec (exec_conv (.tmp 35) rfl W.heap.size 0 8 8 rfl (eightL x) rfl BE2) ?_
      simp [Act.put]
      refine hK.out _ _ trivial (fun hHeld => ?_)
      clear hK K
      refine wpAnyH_ready (rs := [25]) (by kernel_rfl) (by simp) ?_
      refine AllReadyH.cons (o := _) rfl (fun K hK => ?_) AllReadyH.nil
      rw [if_pos (by rfl)]
      refine wp_of_exec (exec_conv (.tmp 38) rfl gf 0 8 cf rfl (eightL x) rfl BF) ?_
      simp [Act.put]
      refine hK.out _ _ trivial (fun hHeld => ?_)
      clear hK K
      refine wpAnyH_take (i := 26) (oi := _) (v := (.bool true)) rfl (by kernel_rfl) (by kernel_rfl) (by kernel_rfl) (fun _ _ _ h => h) (Or.inl ⟨by rfl, fun w hS => by go_simp⟩) (by assumption) ?_
      simp [Act.put]
      refine wpAnyH_take (i := 27) (oi := _) (v := (.bool true)) rfl (by kernel_rfl) (by kernel_rfl) (by kernel_rfl) (fun _ _ _ h => h) (Or.inl ⟨by rfl, fun w hS => by go_simp⟩) (by assumption) ?_
      simp [Act.put]
      refine wpAnyH_take (i := 28) (oi := _) (v := (.bool true)) rfl (by kernel_rfl) (by kernel_rfl) (by kernel_rfl) (fun _ _ _ h => h) (Or.inl ⟨by rfl, fun w hS => by go_simp⟩) (by assumption) ?_
      simp [Act.put]
      refine wpAnyH_done (by kernel_rfl) ?_ _
      go_wp2_with fail
      go_ret
      exact ⟨rfl, by have q1 := bCW.size; have qbE := bE.size; have qbF := bF.size; exact bCW.trans ((bE.mono (by omega)).trans ((bF.mono (by omega)).trans (Below.refl _ _)))⟩
    · rw [if_pos (by rfl)]
      refine wp_of_exec (exec_conv (.tmp 38) rfl gf 0 8 cf rfl (eightL x) rfl BF) ?_
      simp [Act.put]
      refine hK.out _ _ trivial (fun hHeld => ?_)
      clear hK K
      refine wpAnyH_ready (rs := [22]) (by kernel_rfl) (by simp) ?_
      refine AllReadyH.cons (o := _) rfl (fun K hK => ?_) AllReadyH.nil
      rw [if_pos (by rfl)]
      refine wp_of_exec (exec_conv (.tmp 35) rfl W.heap.size 0 8 8 rfl (eightL x) rfl BE2) ?_
      simp [Act.put]
      refine hK.out _ _ trivial (fun hHeld => ?_)
      clear hK K
      refine wpAnyH_take (i := 26) (oi := _) (v := (.bool true)) rfl (by kernel_rfl) (by kernel_rfl) (by kernel_rfl) (fun _ _ _ h => h) (Or.inl ⟨by rfl, fun w hS => by go_simp⟩) (by assumption) ?_
      simp [Act.put]
      refine wpAnyH_take (i := 27) (oi := _) (v := (.bool true)) rfl (by kernel_rfl) (by kernel_rfl) (by kernel_rfl) (fun _ _ _ h => h) (Or.inl ⟨by rfl, fun w hS => by go_simp⟩) (by assumption) ?_
      simp [Act.put]
      refine wpAnyH_take (i := 28) (oi := _) (v := (.bool true)) rfl (by kernel_rfl) (by kernel_rfl) (by kernel_rfl) (fun _ _ _ h => h) (Or.inl ⟨by rfl, fun w hS => by go_simp⟩) (by assumption) ?_
      simp [Act.put]
      refine wpAnyH_done (by kernel_rfl) ?_ _
      go_wp2_with fail
      go_ret
      exact ⟨rfl, by have q1 := bCW.size; have qbE := bE.size; have qbF := bF.size; exact bCW.trans ((bE.mono (by omega)).trans ((bF.mono (by omega)).trans (Below.refl _ _)))⟩

theorem walk (a0 a1 : Int) (w : World) (w0 : W64 a0) (w1 : W64 a1) :
    Calls Try.prog 10 #[.int .u64 a0, .int .u64 a1] w fun e w' => e = .returned (.bool true) ∧ Below w.heap.size w w' := by
  by_cases h : a0 ≤ 4611686018427387903
  · exact walkSome a0 a1 ⟨w0.1, h⟩ w1 w
  · exact walkNo a0 a1 (by omega) w1 w

/-! ### the row's step -/
set_option maxRecDepth 100000 in
theorem lifted (os : Os) (started : os.Started) (H : Type) (enc : TypeId × Value → H) :
    ReturnsInHanded {} Try.checked os 10 .any (Rows.octetWritesSpec.pre6 enc Try.prog Try.f10 Rows.octetWritesRow.domain false) (Rows.octetWritesSpec.post enc Try.prog Try.f10 false true false false) := by
  refine returnsInHanded_of_change (C := Try.checked) own started (by kernel_rfl) Try.func10
    (ChangeSpec.witness6 (enc := enc) (C := Try.checked) false ⟨#[], #[.int .u64 0, .int .u64 0], []⟩ 8 (by kernel_rfl) (by kernel_rfl) (by kernel_rfl) (by kernel_rfl)) ?_
  intro W base args ds gs before hval0 hW hcnd _
  have hval : ∀ (j : Nat) t v, Try.f10.params[j]? = some t → args[j]? = some v → Value.okWide Try.prog W .any base t v := hval0
  have hW' := hW
  obtain ⟨p, q, hA0, hV, rfl, hfz, hnd⟩ := hW
  have hA : DataW.TrodAll enc Try.prog W 0 (fun _ => true) true Try.f10.params.toList args.toList ds p := hA0
  rw [Try.params10] at hA hval
  obtain ⟨v0, vs0, d0, ds0, p0, q0, hargs, rfl, rfl, h0, r0⟩ := trodAll_cons hA
  obtain ⟨v1, vs1, d1, ds1, p1, q1, rfl, rfl, rfl, h1, r1⟩ := trodAll_cons r0
  obtain ⟨rfl, rfl, rfl⟩ := trodAll_nil r1
  obtain rfl : args = #[v0, v1] := by cases args; simp_all
  obtain ⟨rfl, rfl⟩ := trodVars_none hV
  obtain ⟨a0, rfl, rfl, rfl, w0⟩ := open_int Try.underlying22 (hval 0 22 v0 rfl rfl) h0
  obtain ⟨a1, rfl, rfl, rfl, w1⟩ := open_int Try.underlying22 (hval 1 22 v1 rfl rfl) h1
  clear hA0 hval0
  refine (walk a0 a1 W (wfU64 w0) (wfU64 w1)).mono fun e W' ⟨he, bel⟩ => ?_
  subst he
  exact ⟨_, rfl, _, _, _, [], _, [], hW', trodAll_mk1 (shut_bool Try.underlying4 _), (trodAll_cons_mk (shut_int Try.underlying22 w0) (trodAll_cons_mk (shut_int Try.underlying22 w1) trodAll_mk0)), rfl, bel.frame _, fun h => by cases h⟩

theorem over : Rows.octetWritesRow.holds Try.pinned (OpenSpec.ofChange Rows.octetWritesSpec) :=
  OpenClaim.holds_of_wide 10 Try.f10 rfl rfl rfl rfl rfl rfl rfl ⟨rfl, rfl, rfl, rfl, rfl⟩ rfl rfl rfl rfl rfl (by kernel_rfl) Try.func10 (by kernel_rfl)
    (of_decide_eq_true (by kernel_rfl)) (by unfold Func.isWrapper; first | (rw [if_pos (by decide +kernel)]; kernel_rfl) | (rw [if_neg (by decide +kernel)]; exact ⟨rfl, rfl⟩))
    (fun os started H enc _ => lifted os started H enc)

/-- THE STATEMENT -/
theorem proved : Rows.OctetWritesSaid := over
end Go.Proofs.Ytinbfjkonaohnaa.octetWrites
