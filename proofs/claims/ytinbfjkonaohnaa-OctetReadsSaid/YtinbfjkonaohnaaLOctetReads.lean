/- For all slices b of bytes and l of integers, OctetReads returns true: a Reader agrees with the definition. No condition. -/
import Derived.Test.YtinbfjkonaohnaaBase
import Derived.SizedLaws
import Derived.Test.YtinbfjkonaohnaaAliveOctet
import Derived.Test.YtinbfjkonaohnaaNewAny
import Derived.Test.YtinbfjkonaohnaaHeld
namespace Go.Proofs.Ytinbfjkonaohnaa.octetReads
open Go.ChangeShapes Go.WideShapes Go.ChangeAt Go.RowKit Go.Lib
set_option linter.unusedVariables false

theorem body_of_row {w : World} {a : Option Addr} {len cap : Nat} {z : List Int} (h : IsRow .u8 w a len cap z) : ∃ bs, BodyAt w (.slice a len cap) bs ∧ (∀ x ∈ bs, 0 ≤ x ∧ x ≤ 255) ∧ bs.length ≤ cap := by
  rcases h with ⟨rfl, rfl, rfl, rfl⟩ | ⟨x, rfl, hl, hm, hz, hc, hw⟩
  · exact ⟨[], .inl ⟨none, 0, rfl, fun _ => rfl, rfl⟩, by simp, by simp⟩
  · by_cases h0 : len = 0
    · subst h0
      exact ⟨[], .inl ⟨some x, cap, rfl, (fun e => by cases e), rfl⟩, by simp, by simp⟩
    · obtain ⟨b, off, spot⟩ := x
      have h1 := hc 0 (by omega)
      obtain ⟨p1, p2⟩ := cell_plain h1
      have hs : spot = none := by simpa [Addr.add] using p1
      subst hs
      have ht : (z.take len).length = len := by rw [List.length_take]; omega
      refine ⟨z.take len, .inr ⟨b, off, cap, by rw [ht], by omega, by omega, by unfold maxLen at hm; omega, by simpa [Addr.add] using p2, fun i hi => ?_⟩, fun y hy => wfU8 (hw y (List.mem_of_mem_take hy)), by omega⟩
      rw [ht] at hi
      have h2 := hc i (by omega)
      rw [addr_add] at h2
      rw [h2, List.getD_eq_getElem?_getD, List.getD_eq_getElem?_getD, List.getElem?_take, if_pos (by omega)]


theorem exec_conv {o : Oper} {a : Act} {w : World} (y : Operand) (ho : o.op = .convert 34 9 y) (b off len cap : Nat) (hy : a.eval y = .slice (some ⟨b, off, none⟩) len cap) (xs : List Int) (hlen : xs.length = len) (h : BytesAt w b off xs) :
    (execOp a.eval o).run Try.prog w = .ok (.value (.string (strOfNums xs))) w := by
  unfold execOp
  have hr := run_convert_bytes_arg (P := Try.prog) w 34 5 Try.underlying34 Try.underlying5 b off len cap xs hlen (fun i hi => h.2 i (by omega)) 9 Try.underlying9
  simp only [ho, hy, hr, Sem.run_bind, Sem.run_pure, Result.andThen_ok]
theorem BytesAt.belowR8 {w w' : World} {B b off : Nat} {xs : List Int} (h : BytesAt w b off xs) (hb : Below B w w') (hB : b < B) : BytesAt w' b off xs :=
  ⟨Nat.lt_of_lt_of_le h.1 hb.size, fun i hi => by rw [hb.cell hB]; exact h.2 i hi⟩

/-- what a round of the loop finds -/
structure ReadsR (w0 : World) (p b off : Nat) (bs : List Int) (lb lo ll : Nat) (ls : List Int) (k A : Nat) (wr : World) : Prop where
  hA : A ≤ bs.length
  hr : RdAt wr p (bs.drop A)
  hB : BytesAt wr b off bs
  hlb : lb < wr.heap.size
  hl : ∀ i, i < ll → wr.cell? ⟨lb, lo + i, none⟩ = some (.int .i64 (ls.getD i 0))
  bel : Below w0.heap.size w0 wr

set_option maxHeartbeats 16000000 in
set_option maxRecDepth 100000 in
theorem walkSome (b off len cap : Nat) (zs : List Int) (hzb : ∀ x ∈ zs, 0 ≤ x ∧ x ≤ 255) (lb lo ll lc : Nat) (ls : List Int) (w : World)
    (hz : zs.length = len) (hlc : len ≤ cap) (hr : cap ≤ 140737488351232) (h1 : 1 ≤ len) (BZ : BytesAt w b off zs)
    (hll : ll ≤ 200) (hlb : lb < w.heap.size) (hcell : ∀ i, i < ll → w.cell? ⟨lb, lo + i, none⟩ = some (.int .i64 (ls.getD i 0))) :
    Calls Try.prog 11 #[.slice (some ⟨b, off, none⟩) len cap, .slice (some ⟨lb, lo, none⟩) ll lc] w fun e w' => e = .returned (.bool true) ∧ Below w.heap.size w w' := by
  have hbw := BZ.1
  have e0 : (ll : Int) ≤ 200 := by omega
  have HC := Lib.hid hcell
  clear hcell
  go_enter Try.func11, Try.ntmps11
  go_wp2_with fail
  refine (oNew b off len cap zs hz (by omega) _ BZ).mono ?_; rintro e' w' ⟨w1, v1, hgrow1, hown1, rfl, rfl⟩
  obtain ⟨g, c, rfl, hg, hc, hm, B1⟩ := ownBytes hown1 (by omega)
  have b1 : Below w.heap.size w w1 := below_grown (Below.refl _ _) hgrow1 (Nat.le_refl _)
  have s1 := b1.size
  obtain ⟨w2, hw2⟩ : ∃ w2, w2 = w1.alloc (.cells #[.slice (some ⟨g, 0, none⟩) len c] 70) := ⟨_, rfl⟩
  have b2 : Below w1.heap.size w1 w2 := by rw [hw2]; exact (Below.refl _ _).alloc (Nat.le_refl _) _
  have s2 : w2.heap.size = w1.heap.size + 1 := by rw [hw2]; simp
  have p2 : w2.cell? ⟨w1.heap.size, 0, none⟩ = some (.slice (some ⟨g, 0, none⟩) len c) := by rw [hw2]; go_simp
  have q2 : w2.frozen? ⟨w1.heap.size, 0, none⟩ = false := by rw [hw2]; go_simp
  rw [← hw2]
  clear hw2 hown1 hgrow1
  have gl := B1.1
  have R2 : RdAt w2 w1.heap.size zs := ⟨by omega, q2, _, c, by rw [hz]; exact p2, by omega, hm, .inr ⟨g, 0, rfl, by omega, BytesAt.below B1 b2⟩⟩
  have BZ2 := BytesAt.below (BytesAt.below BZ b1) b2
  go_wp2_with fail
  refine (aliveOctet _).mono ?_; rintro e' w3 ⟨rfl, b3⟩
  have s3 := b3.size
  have R3 := RdAt.below R2 b3
  have BZ3 := BytesAt.below BZ2 b3
  have b03 : Below w.heap.size w w3 := b1.trans ((b2.mono (by omega)).trans (b3.mono (by omega)))
  clear B1 BZ2 BZ R2 p2 q2
  have hp3 : w1.heap.size < w3.heap.size := by omega
  have hp0 : w.heap.size ≤ w1.heap.size := by omega
  clear b1 b2 b3
  generalize w1.heap.size = p at *
  go_wp2_with fail
  go_loopw [6, 7] (fun at' i wr => ∃ (k A : Nat), i = .int .i64 (k : Int) ∧ at' = .int .i64 (A : Int) ∧ k ≤ ll ∧ ReadsR w p b off zs lb lo ll ls k A wr) (fun _ i _ => (ll - intOf i).toNat)
  case atStart =>
    exact ⟨0, 0, rfl, rfl, by omega, by omega, by simpa using R3, BZ3, by omega, fun i hi => by rw [b03.cell hlb]; exact HC.out i hi, b03⟩
  case round =>
    obtain ⟨k, A, rfl, rfl, hk, hA, R, B, hlb', hcells, bel⟩ := hrel
    by_cases hlt : k < ll
    · have ck := hcells k hlt
      have HCL := Lib.hid hcells
      clear hcells
      have hlt' : (k : Int) < (ll : Int) := by omega
      have hk0 : (0 : Int) ≤ (k : Int) := by omega
      have hlbp : lb < p := by omega
      have hAi : (A : Int) ≤ (len : Int) := by omega
      have hlen : (len : Int) ≤ 140737488351232 := by omega
      obtain ⟨x, hx⟩ : ∃ x, ls.getD k 0 = x := ⟨_, rfl⟩
      rw [hx] at ck
      by_cases c0 : x = 0
      · subst c0
        obtain ⟨N, K, e, hK, _, hH, hT⟩ := numSame zs (zs.drop A) A rfl (fun x hx => hzb x (List.mem_of_mem_drop hx)) hA (by omega)
        rw [List.length_drop] at hK
        go_wp2_with fail
        refine (hH _ p R).mono ?_; rintro e' w4 ⟨rfl, b4, R4, _⟩
        have B4 := BytesAt.belowR8 B b4 (by omega)
        have HT := hT _ b off cap B4
        rw [hz] at HT
        rw [List.drop_drop] at R4
        obtain ⟨M, hM⟩ : ∃ M, (zs.drop (A + K)).length = M := ⟨_, rfl⟩
        have hM2 : (M : Int) = (len : Int) - ((A : Int) + (K : Int)) := by rw [List.length_drop] at hM; omega
        have hL := leftHere _ _ p R4
        rw [hM] at hL
        have hAK : (A : Int) + (K : Int) ≤ (len : Int) := by omega
        go_wp2_with fail
        refine HT.mono ?_; rintro e' w' ⟨rfl, rfl⟩
        go_wp2_with fail
        refine hL.mono ?_; rintro e' w' ⟨rfl, rfl⟩
        go_wp2_with fail
        go_roundw
        case rel => exact ⟨k + 1, A + K, by congr 1, by congr 1, by omega, by omega, R4, B4, Nat.lt_of_lt_of_le hlb' b4.size, fun i hi => by rw [b4.cell (by simp; omega)]; exact HCL.out i hi, bel.trans (b4.mono hp0)⟩
        case measure => simp only [intOf]; omega
      by_cases c1 : x = 1
      · subst c1
        obtain ⟨N, K, e, hK, _, hH, hT⟩ := wordSame zs (zs.drop A) A rfl (fun x hx => hzb x (List.mem_of_mem_drop hx)) hA (by omega)
        rw [List.length_drop] at hK
        go_wp2_with fail
        refine (hH _ p R).mono ?_; rintro e' w4 ⟨rfl, b4, R4, _⟩
        have B4 := BytesAt.belowR8 B b4 (by omega)
        have HT := hT _ b off cap B4
        rw [hz] at HT
        rw [List.drop_drop] at R4
        obtain ⟨M, hM⟩ : ∃ M, (zs.drop (A + K)).length = M := ⟨_, rfl⟩
        have hM2 : (M : Int) = (len : Int) - ((A : Int) + (K : Int)) := by rw [List.length_drop] at hM; omega
        have hL := leftHere _ _ p R4
        rw [hM] at hL
        have hAK : (A : Int) + (K : Int) ≤ (len : Int) := by omega
        go_wp2_with fail
        refine HT.mono ?_; rintro e' w' ⟨rfl, rfl⟩
        go_wp2_with fail
        refine hL.mono ?_; rintro e' w' ⟨rfl, rfl⟩
        go_wp2_with fail
        go_roundw
        case rel => exact ⟨k + 1, A + K, by congr 1, by congr 1, by omega, by omega, R4, B4, Nat.lt_of_lt_of_le hlb' b4.size, fun i hi => by rw [b4.cell (by simp; omega)]; exact HCL.out i hi, bel.trans (b4.mono hp0)⟩
        case measure => simp only [intOf]; omega
      have d0 : (x == 0) = false := by rw [beq_eq_false_iff_ne]; exact c0
      have d1 : (x == 1) = false := by rw [beq_eq_false_iff_ne]; exact c1
      obtain ⟨M, hM⟩ : ∃ M, (zs.drop A).length = M := ⟨_, rfl⟩
      have hM2 : (M : Int) = (len : Int) - (A : Int) := by rw [List.length_drop] at hM; omega
      have hL := leftHere _ _ p R
      rw [hM] at hL
      have bd : Below wr.heap.size wr wr.drew := ⟨rfl, rfl, rfl, Nat.le_refl _, fun _ _ => rfl⟩
      have hb0 := bel.size
      by_cases c2 : x < 0
      · have RD := R.below bd
        have BD := BytesAt.below B bd
        have hL := leftHere _ _ p RD
        rw [hM] at hL
        go_wp2_with fail
        refine (oTakeBad p x c2 _).mono ?_; rintro e' w' ⟨rfl, rfl⟩
        go_wp2_with fail
        have HS : True := trivial
        refine wp_region_held_drew (S := fun _ => True) (by kernel_rfl) HS (fun hHeld => ?_)
        refine wpAnyH_take (i := 0) (oi := _) (v := (.int .i64 1)) rfl (by kernel_rfl) (by kernel_rfl) (by kernel_rfl) (fun _ _ _ h => h) (Or.inl ⟨by rfl, fun w hS => by go_simp⟩) (by assumption) ?_
        simp [Act.put]
        refine wpAnyH_take (i := 1) (oi := _) (v := (.int .i64 1)) rfl (by kernel_rfl) (by kernel_rfl) (by kernel_rfl) (fun _ _ _ h => h) (Or.inl ⟨by rfl, fun w hS => by go_simp⟩) (by assumption) ?_
        simp [Act.put]
        refine wpAnyH_take (i := 2) (oi := _) (v := (.bool false)) rfl (by kernel_rfl) (by kernel_rfl) (by kernel_rfl) (fun _ _ _ h => h) (Or.inl ⟨by rfl, fun w hS => by go_simp⟩) (by assumption) ?_
        simp [Act.put]
        refine wpAnyH_take (i := 3) (oi := _) (v := (.bool false)) rfl (by kernel_rfl) (by kernel_rfl) (by kernel_rfl) (fun _ _ _ h => h) (Or.inl ⟨by rfl, fun w hS => by go_simp⟩) (by assumption) ?_
        simp [Act.put]
        refine wpAnyH_take (i := 4) (oi := _) (v := (.int .i64 1)) rfl (by kernel_rfl) (by kernel_rfl) (by kernel_rfl) (fun _ _ _ h => h) (Or.inl ⟨by rfl, fun w hS => by go_simp⟩) (by assumption) ?_
        simp [Act.put]
        refine wpAnyH_take (i := 5) (oi := _) (v := (.bool true)) rfl (by kernel_rfl) (by kernel_rfl) (by kernel_rfl) (fun _ _ _ h => h) (Or.inl ⟨by rfl, fun w hS => by go_simp⟩) (by assumption) ?_
        simp [Act.put]
        refine wpAnyH_take (i := 6) (oi := _) (v := (.bool true)) rfl (by kernel_rfl) (by kernel_rfl) (by kernel_rfl) (fun _ _ _ h => h) (Or.inl ⟨by rfl, fun w hS => by go_simp⟩) (by assumption) ?_
        simp [Act.put]
        refine wpAnyH_take (i := 7) (oi := _) (v := (.slice none 0 0)) rfl (by kernel_rfl) (by kernel_rfl) (by kernel_rfl) (fun _ _ _ h => h) (Or.inl ⟨by rfl, fun w hS => by go_simp⟩) (by assumption) ?_
        simp [Act.put]
        refine wpAnyH_take (i := 8) (oi := _) (v := (.int .i64 0)) rfl (by kernel_rfl) (by kernel_rfl) (by kernel_rfl) (fun _ _ _ h => h) (Or.inl ⟨by rfl, fun w hS => by go_simp⟩) (by assumption) ?_
        simp [Act.put]
        refine wpAnyH_take (i := 9) (oi := _) (v := (.bool false)) rfl (by kernel_rfl) (by kernel_rfl) (by kernel_rfl) (fun _ _ _ h => h) (Or.inl ⟨by rfl, fun w hS => by go_simp⟩) (by assumption) ?_
        simp [Act.put]
        refine wpAnyH_take (i := 10) (oi := _) (v := (.bool false)) rfl (by kernel_rfl) (by kernel_rfl) (by kernel_rfl) (fun _ _ _ h => h) (Or.inl ⟨by rfl, fun w hS => by go_simp⟩) (by assumption) ?_
        simp [Act.put]
        refine wpAnyH_take (i := 11) (oi := _) (v := (.bool false)) rfl (by kernel_rfl) (by kernel_rfl) (by kernel_rfl) (fun _ _ _ h => h) (Or.inl ⟨by rfl, fun w hS => by go_simp⟩) (by assumption) ?_
        simp [Act.put]
        refine wpAnyH_take (i := 12) (oi := _) (v := (.bool false)) rfl (by kernel_rfl) (by kernel_rfl) (by kernel_rfl) (fun _ _ _ h => h) (Or.inl ⟨by rfl, fun w hS => by go_simp⟩) (by assumption) ?_
        simp [Act.put]
        refine wpAnyH_take (i := 13) (oi := _) (v := (.int .i64 1)) rfl (by kernel_rfl) (by kernel_rfl) (by kernel_rfl) (fun _ _ _ h => h) (Or.inl ⟨by rfl, fun w hS => by go_simp⟩) (by assumption) ?_
        simp [Act.put]
        refine wpAnyH_take (i := 14) (oi := _) (v := (.bool false)) rfl (by kernel_rfl) (by kernel_rfl) (by kernel_rfl) (fun _ _ _ h => h) (Or.inl ⟨by rfl, fun w hS => by go_simp⟩) (by assumption) ?_
        simp [Act.put]
        refine wpAnyH_take (i := 15) (oi := _) (v := (.bool false)) rfl (by kernel_rfl) (by kernel_rfl) (by kernel_rfl) (fun _ _ _ h => h) (Or.inl ⟨by rfl, fun w hS => by go_simp⟩) (by assumption) ?_
        simp [Act.put]
        refine wpAnyH_take (i := 16) (oi := _) (v := undef) rfl (by kernel_rfl) (by kernel_rfl) (by kernel_rfl) (fun _ _ _ h => h) (Or.inr ⟨by rfl, rfl⟩) (by assumption) ?_
        simp [Act.put]
        refine wpAnyH_take (i := 17) (oi := _) (v := undef) rfl (by kernel_rfl) (by kernel_rfl) (by kernel_rfl) (fun _ _ _ h => h) (Or.inr ⟨by rfl, rfl⟩) (by assumption) ?_
        simp [Act.put]
        refine wpAnyH_take (i := 18) (oi := _) (v := undef) rfl (by kernel_rfl) (by kernel_rfl) (by kernel_rfl) (fun _ _ _ h => h) (Or.inr ⟨by rfl, rfl⟩) (by assumption) ?_
        simp [Act.put]
        refine wpAnyH_take (i := 19) (oi := _) (v := undef) rfl (by kernel_rfl) (by kernel_rfl) (by kernel_rfl) (fun _ _ _ h => h) (Or.inr ⟨by rfl, rfl⟩) (by assumption) ?_
        simp [Act.put]
        refine wpAnyH_take (i := 20) (oi := _) (v := undef) rfl (by kernel_rfl) (by kernel_rfl) (by kernel_rfl) (fun _ _ _ h => h) (Or.inr ⟨by rfl, rfl⟩) (by assumption) ?_
        simp [Act.put]
        refine wpAnyH_take (i := 21) (oi := _) (v := undef) rfl (by kernel_rfl) (by kernel_rfl) (by kernel_rfl) (fun _ _ _ h => h) (Or.inr ⟨by rfl, rfl⟩) (by assumption) ?_
        simp [Act.put]
        refine wpAnyH_take (i := 22) (oi := _) (v := undef) rfl (by kernel_rfl) (by kernel_rfl) (by kernel_rfl) (fun _ _ _ h => h) (Or.inr ⟨by rfl, rfl⟩) (by assumption) ?_
        simp [Act.put]
        refine wpAnyH_take (i := 23) (oi := _) (v := undef) rfl (by kernel_rfl) (by kernel_rfl) (by kernel_rfl) (fun _ _ _ h => h) (Or.inr ⟨by rfl, rfl⟩) (by assumption) ?_
        simp [Act.put]
        refine wpAnyH_take (i := 24) (oi := _) (v := undef) rfl (by kernel_rfl) (by kernel_rfl) (by kernel_rfl) (fun _ _ _ h => h) (Or.inr ⟨by rfl, rfl⟩) (by assumption) ?_
        simp [Act.put]
        refine wpAnyH_take (i := 25) (oi := _) (v := undef) rfl (by kernel_rfl) (by kernel_rfl) (by kernel_rfl) (fun _ _ _ h => h) (Or.inr ⟨by rfl, rfl⟩) (by assumption) ?_
        simp [Act.put]
        refine wpAnyH_take (i := 26) (oi := _) (v := undef) rfl (by kernel_rfl) (by kernel_rfl) (by kernel_rfl) (fun _ _ _ h => h) (Or.inr ⟨by rfl, rfl⟩) (by assumption) ?_
        simp [Act.put]
        refine wpAnyH_take (i := 27) (oi := _) (v := undef) rfl (by kernel_rfl) (by kernel_rfl) (by kernel_rfl) (fun _ _ _ h => h) (Or.inr ⟨by rfl, rfl⟩) (by assumption) ?_
        simp [Act.put]
        refine wpAnyH_take (i := 28) (oi := _) (v := undef) rfl (by kernel_rfl) (by kernel_rfl) (by kernel_rfl) (fun _ _ _ h => h) (Or.inr ⟨by rfl, rfl⟩) (by assumption) ?_
        simp [Act.put]
        refine wpAnyH_take (i := 29) (oi := _) (v := (.bool false)) rfl (by kernel_rfl) (by kernel_rfl) (by kernel_rfl) (fun _ _ _ h => h) (Or.inl ⟨by rfl, fun w hS => by go_simp⟩) (by assumption) ?_
        simp [Act.put]
        refine wpAnyH_take (i := 30) (oi := _) (v := (.bool false)) rfl (by kernel_rfl) (by kernel_rfl) (by kernel_rfl) (fun _ _ _ h => h) (Or.inl ⟨by rfl, fun w hS => by go_simp⟩) (by assumption) ?_
        simp [Act.put]
        refine wpAnyH_done (by kernel_rfl) ?_ _
        go_wp2_with fail
        refine hL.mono ?_; rintro e' w' ⟨rfl, rfl⟩
        go_wp2_with fail
        go_roundw
        case rel => exact ⟨k + 1, A, by congr 1, rfl, by omega, hA, RD, BD, by simpa using hlb', fun i hi => HCL.out i hi, bel.trans (bd.mono hb0)⟩
        case measure => simp only [intOf]; omega
      by_cases c3 : (M : Int) < x
      · have RD := R.below bd
        have BD := BytesAt.below B bd
        have hL := leftHere _ _ p RD
        rw [hM] at hL
        have c4 : (len : Int) - (A : Int) < x := by omega
        go_wp2_with fail
        refine (takeShort _ x (by rw [hM]; exact c3) _ p R).mono ?_; rintro e' w' ⟨rfl, rfl⟩
        go_wp2_with fail
        have HS : True := trivial
        refine wp_region_held_drew (S := fun _ => True) (by kernel_rfl) HS (fun hHeld => ?_)
        refine wpAnyH_take (i := 0) (oi := _) (v := (.int .i64 2)) rfl (by kernel_rfl) (by kernel_rfl) (by kernel_rfl) (fun _ _ _ h => h) (Or.inl ⟨by rfl, fun w hS => by go_simp⟩) (by assumption) ?_
        simp [Act.put]
        refine wpAnyH_take (i := 1) (oi := _) (v := (.int .i64 2)) rfl (by kernel_rfl) (by kernel_rfl) (by kernel_rfl) (fun _ _ _ h => h) (Or.inl ⟨by rfl, fun w hS => by go_simp⟩) (by assumption) ?_
        simp [Act.put]
        refine wpAnyH_take (i := 2) (oi := _) (v := (.bool false)) rfl (by kernel_rfl) (by kernel_rfl) (by kernel_rfl) (fun _ _ _ h => h) (Or.inl ⟨by rfl, fun w hS => by go_simp⟩) (by assumption) ?_
        simp [Act.put]
        refine wpAnyH_take (i := 3) (oi := _) (v := (.bool false)) rfl (by kernel_rfl) (by kernel_rfl) (by kernel_rfl) (fun _ _ _ h => h) (Or.inl ⟨by rfl, fun w hS => by go_simp⟩) (by assumption) ?_
        simp [Act.put]
        refine wpAnyH_take (i := 4) (oi := _) (v := (.int .i64 2)) rfl (by kernel_rfl) (by kernel_rfl) (by kernel_rfl) (fun _ _ _ h => h) (Or.inl ⟨by rfl, fun w hS => by go_simp⟩) (by assumption) ?_
        simp [Act.put]
        refine wpAnyH_take (i := 5) (oi := _) (v := (.bool true)) rfl (by kernel_rfl) (by kernel_rfl) (by kernel_rfl) (fun _ _ _ h => h) (Or.inl ⟨by rfl, fun w hS => by go_simp⟩) (by assumption) ?_
        simp [Act.put]
        refine wpAnyH_take (i := 6) (oi := _) (v := (.bool true)) rfl (by kernel_rfl) (by kernel_rfl) (by kernel_rfl) (fun _ _ _ h => h) (Or.inl ⟨by rfl, fun w hS => by go_simp⟩) (by assumption) ?_
        simp [Act.put]
        refine wpAnyH_take (i := 7) (oi := _) (v := (.slice none 0 0)) rfl (by kernel_rfl) (by kernel_rfl) (by kernel_rfl) (fun _ _ _ h => h) (Or.inl ⟨by rfl, fun w hS => by go_simp⟩) (by assumption) ?_
        simp [Act.put]
        refine wpAnyH_take (i := 8) (oi := _) (v := (.int .i64 0)) rfl (by kernel_rfl) (by kernel_rfl) (by kernel_rfl) (fun _ _ _ h => h) (Or.inl ⟨by rfl, fun w hS => by go_simp⟩) (by assumption) ?_
        simp [Act.put]
        refine wpAnyH_take (i := 9) (oi := _) (v := (.bool false)) rfl (by kernel_rfl) (by kernel_rfl) (by kernel_rfl) (fun _ _ _ h => h) (Or.inl ⟨by rfl, fun w hS => by go_simp⟩) (by assumption) ?_
        simp [Act.put]
        refine wpAnyH_take (i := 10) (oi := _) (v := (.bool false)) rfl (by kernel_rfl) (by kernel_rfl) (by kernel_rfl) (fun _ _ _ h => h) (Or.inl ⟨by rfl, fun w hS => by go_simp⟩) (by assumption) ?_
        simp [Act.put]
        refine wpAnyH_take (i := 11) (oi := _) (v := (.bool false)) rfl (by kernel_rfl) (by kernel_rfl) (by kernel_rfl) (fun _ _ _ h => h) (Or.inl ⟨by rfl, fun w hS => by go_simp⟩) (by assumption) ?_
        simp [Act.put]
        refine wpAnyH_take (i := 12) (oi := _) (v := (.bool false)) rfl (by kernel_rfl) (by kernel_rfl) (by kernel_rfl) (fun _ _ _ h => h) (Or.inl ⟨by rfl, fun w hS => by go_simp⟩) (by assumption) ?_
        simp [Act.put]
        refine wpAnyH_take (i := 13) (oi := _) (v := (.int .i64 2)) rfl (by kernel_rfl) (by kernel_rfl) (by kernel_rfl) (fun _ _ _ h => h) (Or.inl ⟨by rfl, fun w hS => by go_simp⟩) (by assumption) ?_
        simp [Act.put]
        refine wpAnyH_take (i := 14) (oi := _) (v := (.bool false)) rfl (by kernel_rfl) (by kernel_rfl) (by kernel_rfl) (fun _ _ _ h => h) (Or.inl ⟨by rfl, fun w hS => by go_simp⟩) (by assumption) ?_
        simp [Act.put]
        refine wpAnyH_take (i := 15) (oi := _) (v := (.bool false)) rfl (by kernel_rfl) (by kernel_rfl) (by kernel_rfl) (fun _ _ _ h => h) (Or.inl ⟨by rfl, fun w hS => by go_simp⟩) (by assumption) ?_
        simp [Act.put]
        refine wpAnyH_take (i := 16) (oi := _) (v := undef) rfl (by kernel_rfl) (by kernel_rfl) (by kernel_rfl) (fun _ _ _ h => h) (Or.inr ⟨by rfl, rfl⟩) (by assumption) ?_
        simp [Act.put]
        refine wpAnyH_take (i := 17) (oi := _) (v := undef) rfl (by kernel_rfl) (by kernel_rfl) (by kernel_rfl) (fun _ _ _ h => h) (Or.inr ⟨by rfl, rfl⟩) (by assumption) ?_
        simp [Act.put]
        refine wpAnyH_take (i := 18) (oi := _) (v := undef) rfl (by kernel_rfl) (by kernel_rfl) (by kernel_rfl) (fun _ _ _ h => h) (Or.inr ⟨by rfl, rfl⟩) (by assumption) ?_
        simp [Act.put]
        refine wpAnyH_take (i := 19) (oi := _) (v := undef) rfl (by kernel_rfl) (by kernel_rfl) (by kernel_rfl) (fun _ _ _ h => h) (Or.inr ⟨by rfl, rfl⟩) (by assumption) ?_
        simp [Act.put]
        refine wpAnyH_take (i := 20) (oi := _) (v := undef) rfl (by kernel_rfl) (by kernel_rfl) (by kernel_rfl) (fun _ _ _ h => h) (Or.inr ⟨by rfl, rfl⟩) (by assumption) ?_
        simp [Act.put]
        refine wpAnyH_take (i := 21) (oi := _) (v := undef) rfl (by kernel_rfl) (by kernel_rfl) (by kernel_rfl) (fun _ _ _ h => h) (Or.inr ⟨by rfl, rfl⟩) (by assumption) ?_
        simp [Act.put]
        refine wpAnyH_take (i := 22) (oi := _) (v := undef) rfl (by kernel_rfl) (by kernel_rfl) (by kernel_rfl) (fun _ _ _ h => h) (Or.inr ⟨by rfl, rfl⟩) (by assumption) ?_
        simp [Act.put]
        refine wpAnyH_take (i := 23) (oi := _) (v := undef) rfl (by kernel_rfl) (by kernel_rfl) (by kernel_rfl) (fun _ _ _ h => h) (Or.inr ⟨by rfl, rfl⟩) (by assumption) ?_
        simp [Act.put]
        refine wpAnyH_take (i := 24) (oi := _) (v := undef) rfl (by kernel_rfl) (by kernel_rfl) (by kernel_rfl) (fun _ _ _ h => h) (Or.inr ⟨by rfl, rfl⟩) (by assumption) ?_
        simp [Act.put]
        refine wpAnyH_take (i := 25) (oi := _) (v := undef) rfl (by kernel_rfl) (by kernel_rfl) (by kernel_rfl) (fun _ _ _ h => h) (Or.inr ⟨by rfl, rfl⟩) (by assumption) ?_
        simp [Act.put]
        refine wpAnyH_take (i := 26) (oi := _) (v := undef) rfl (by kernel_rfl) (by kernel_rfl) (by kernel_rfl) (fun _ _ _ h => h) (Or.inr ⟨by rfl, rfl⟩) (by assumption) ?_
        simp [Act.put]
        refine wpAnyH_take (i := 27) (oi := _) (v := undef) rfl (by kernel_rfl) (by kernel_rfl) (by kernel_rfl) (fun _ _ _ h => h) (Or.inr ⟨by rfl, rfl⟩) (by assumption) ?_
        simp [Act.put]
        refine wpAnyH_take (i := 28) (oi := _) (v := undef) rfl (by kernel_rfl) (by kernel_rfl) (by kernel_rfl) (fun _ _ _ h => h) (Or.inr ⟨by rfl, rfl⟩) (by assumption) ?_
        simp [Act.put]
        refine wpAnyH_take (i := 29) (oi := _) (v := (.bool false)) rfl (by kernel_rfl) (by kernel_rfl) (by kernel_rfl) (fun _ _ _ h => h) (Or.inl ⟨by rfl, fun w hS => by go_simp⟩) (by assumption) ?_
        simp [Act.put]
        refine wpAnyH_take (i := 30) (oi := _) (v := (.bool false)) rfl (by kernel_rfl) (by kernel_rfl) (by kernel_rfl) (fun _ _ _ h => h) (Or.inl ⟨by rfl, fun w hS => by go_simp⟩) (by assumption) ?_
        simp [Act.put]
        refine wpAnyH_done (by kernel_rfl) ?_ _
        go_wp2_with fail
        refine hL.mono ?_; rintro e' w' ⟨rfl, rfl⟩
        go_wp2_with fail
        go_roundw
        case rel => exact ⟨k + 1, A, by congr 1, rfl, by omega, hA, RD, BD, by simpa using hlb', fun i hi => HCL.out i hi, bel.trans (bd.mono hb0)⟩
        case measure => simp only [intOf]; omega
      obtain ⟨m, rfl⟩ : ∃ m : Nat, x = (m : Int) := ⟨x.toNat, by omega⟩
      have hm1 : 1 ≤ m := by omega
      have hmM : m ≤ M := by omega
      go_wp2_with fail
      refine (takeHere _ m hm1 (by omega) (by omega) _ p R).mono ?_; rintro e' w4 ⟨q, qc, rfl, BQ, b4, R4, _⟩
      rw [List.drop_drop] at R4
      have B4 := BytesAt.belowR8 B b4 (by omega)
      have BS : BytesAt w4.drew b (off + A) ((zs.drop A).take m) := BytesAt.take' (BytesAt.drop ⟨B4.1, B4.2⟩ A) m
      have BQ2 : BytesAt w4.drew q 0 ((zs.drop A).take m) := ⟨BQ.1, BQ.2⟩
      have hml : ((zs.drop A).take m).length = m := by rw [List.length_take]; omega
      have ck4 : w4.cell? ⟨lb, lo + k, none⟩ = some (.int .i64 (m : Int)) := by rw [b4.cell (by simp; omega)]; exact ck
      have bd4 : Below w4.heap.size w4 w4.drew := ⟨rfl, rfl, rfl, Nat.le_refl _, fun _ _ => rfl⟩
      have RD := R4.below bd4
      have hL4 := leftHere _ _ p RD
      obtain ⟨M2, hMM⟩ : ∃ M, (zs.drop (A + m)).length = M := ⟨_, rfl⟩
      have hM3 : (M2 : Int) = (len : Int) - ((A : Int) + (m : Int)) := by rw [List.length_drop] at hMM; omega
      rw [hMM] at hL4
      have k1 : (A : Int) + (m : Int) ≤ (len : Int) := by omega
      have k2 : (len : Int) ≤ (cap : Int) := by omega
      have k3 : (cap : Int) ≤ 140737488351232 := by omega
      have k4 : (0 : Int) ≤ (m : Int) := by omega
      have k5 : (0 : Int) ≤ (A : Int) := by omega
      have k6 : (A : Int) + (m : Int) ≤ (cap : Int) := by omega
      have k7 : ¬ (cap : Int) < (A : Int) + (m : Int) := by omega
      have k8 : ¬ (A : Int) + (m : Int) < (A : Int) := by omega
      have k9 : (A : Int) ≤ (cap : Int) := by omega
      have sum : IntKind.i64.wrap ((A : Int) + (m : Int)) = (A : Int) + (m : Int) := by rw [IntKind.wrap_i64]; omega
      have c4 : ¬ (len : Int) - (A : Int) < (m : Int) := by omega
      go_wp2_with fail
      have SD : BytesAt w4.drew b (off + A) ((zs.drop A).take m) ∧ BytesAt w4.drew q 0 ((zs.drop A).take m) ∧ w4.drew.cell? ⟨lb, lo + k, none⟩ = some (.int .i64 (m : Int)) := ⟨BS, BQ2, ck4⟩
      refine wp_region_held_drew (S := fun W => BytesAt W b (off + A) ((zs.drop A).take m) ∧ BytesAt W q 0 ((zs.drop A).take m) ∧ W.cell? ⟨lb, lo + k, none⟩ = some (.int .i64 (m : Int))) (by kernel_rfl) SD (fun hHeld => ?_)
      refine wpAnyH_take (i := 0) (oi := _) (v := (.int .i64 0)) rfl (by kernel_rfl) (by kernel_rfl) (by kernel_rfl) (fun _ _ _ h => h) (Or.inl ⟨by rfl, fun w hS => by go_simp⟩) (by assumption) ?_
      simp [Act.put]
      refine wpAnyH_take (i := 1) (oi := _) (v := (.int .i64 0)) rfl (by kernel_rfl) (by kernel_rfl) (by kernel_rfl) (fun _ _ _ h => h) (Or.inl ⟨by rfl, fun w hS => by go_simp⟩) (by assumption) ?_
      simp [Act.put]
      refine wpAnyH_take (i := 2) (oi := _) (v := (.bool false)) rfl (by kernel_rfl) (by kernel_rfl) (by kernel_rfl) (fun _ _ _ h => h) (Or.inl ⟨by rfl, fun w hS => by go_simp⟩) (by assumption) ?_
      simp [Act.put]
      refine wpAnyH_take (i := 3) (oi := _) (v := (.bool false)) rfl (by kernel_rfl) (by kernel_rfl) (by kernel_rfl) (fun _ _ _ h => h) (Or.inl ⟨by rfl, fun w hS => by go_simp⟩) (by assumption) ?_
      simp [Act.put]
      refine wpAnyH_take (i := 4) (oi := _) (v := (.int .i64 0)) rfl (by kernel_rfl) (by kernel_rfl) (by kernel_rfl) (fun _ _ _ h => h) (Or.inl ⟨by rfl, fun w hS => by go_simp⟩) (by assumption) ?_
      simp [Act.put]
      refine wpAnyH_take (i := 5) (oi := _) (v := (.bool false)) rfl (by kernel_rfl) (by kernel_rfl) (by kernel_rfl) (fun _ _ _ h => h) (Or.inl ⟨by rfl, fun w hS => by go_simp⟩) (by assumption) ?_
      simp [Act.put]
      refine wpAnyH_take (i := 6) (oi := _) (v := (.bool false)) rfl (by kernel_rfl) (by kernel_rfl) (by kernel_rfl) (fun _ _ _ h => h) (Or.inl ⟨by rfl, fun w hS => by go_simp⟩) (by assumption) ?_
      simp [Act.put]
      refine wpAnyH_take (i := 7) (oi := _) (v := undef) rfl (by kernel_rfl) (by kernel_rfl) (by kernel_rfl) (fun _ _ _ h => h) (Or.inr ⟨by rfl, rfl⟩) (by assumption) ?_
      simp [Act.put]
      refine wpAnyH_take (i := 8) (oi := _) (v := undef) rfl (by kernel_rfl) (by kernel_rfl) (by kernel_rfl) (fun _ _ _ h => h) (Or.inr ⟨by rfl, rfl⟩) (by assumption) ?_
      simp [Act.put]
      refine wpAnyH_take (i := 9) (oi := _) (v := undef) rfl (by kernel_rfl) (by kernel_rfl) (by kernel_rfl) (fun _ _ _ h => h) (Or.inr ⟨by rfl, rfl⟩) (by assumption) ?_
      simp [Act.put]
      refine wpAnyH_take (i := 10) (oi := _) (v := (.bool false)) rfl (by kernel_rfl) (by kernel_rfl) (by kernel_rfl) (fun _ _ _ h => h) (Or.inl ⟨by rfl, fun w hS => by go_simp⟩) (by assumption) ?_
      simp [Act.put]
      refine wpAnyH_take (i := 11) (oi := _) (v := (.bool false)) rfl (by kernel_rfl) (by kernel_rfl) (by kernel_rfl) (fun _ _ _ h => h) (Or.inl ⟨by rfl, fun w hS => by go_simp⟩) (by assumption) ?_
      simp [Act.put]
      refine wpAnyH_take (i := 12) (oi := _) (v := (.bool false)) rfl (by kernel_rfl) (by kernel_rfl) (by kernel_rfl) (fun _ _ _ h => h) (Or.inl ⟨by rfl, fun w hS => by go_simp⟩) (by assumption) ?_
      simp [Act.put]
      refine wpAnyH_take (i := 13) (oi := _) (v := (.int .i64 0)) rfl (by kernel_rfl) (by kernel_rfl) (by kernel_rfl) (fun _ _ _ h => h) (Or.inl ⟨by rfl, fun w hS => by go_simp⟩) (by assumption) ?_
      simp [Act.put]
      refine wpAnyH_take (i := 14) (oi := _) (v := (.bool true)) rfl (by kernel_rfl) (by kernel_rfl) (by kernel_rfl) (fun _ _ _ h => h) (Or.inl ⟨by rfl, fun w hS => by go_simp⟩) (by assumption) ?_
      simp [Act.put]
      refine wpAnyH_take (i := 15) (oi := _) (v := (.bool true)) rfl (by kernel_rfl) (by kernel_rfl) (by kernel_rfl) (fun _ _ _ h => h) (Or.inl ⟨by rfl, fun w hS => by go_simp⟩) (by assumption) ?_
      simp [Act.put]
      refine wpAnyH_take (i := 16) (oi := _) (v := (.slice (some ⟨q, 0, none⟩) m qc)) rfl (by kernel_rfl) (by kernel_rfl) (by kernel_rfl) (fun _ _ _ h => h) (Or.inl ⟨by rfl, fun w hS => by go_simp⟩) (by assumption) ?_
      simp [Act.put]
      refine wpAnyH_take (i := 17) (oi := _) (v := (.string (strOfNums ((zs.drop A).take m)))) rfl (by kernel_rfl) (by kernel_rfl) (by kernel_rfl) (fun _ _ _ h => h) (Or.inl ⟨by rfl, fun w hS => by exact exec_conv (.tmp 88) rfl q 0 m qc rfl _ hml hS.2.1⟩) (by assumption) ?_
      simp [Act.put]
      refine wpAnyH_take (i := 18) (oi := _) (v := (.slice (some ⟨b, off, none⟩) len cap)) rfl (by kernel_rfl) (by kernel_rfl) (by kernel_rfl) (fun _ _ _ h => h) (Or.inl ⟨by rfl, fun w hS => by go_simp⟩) (by assumption) ?_
      simp [Act.put]
      refine wpAnyH_take (i := 19) (oi := _) (v := (.int .i64 (A : Int))) rfl (by kernel_rfl) (by kernel_rfl) (by kernel_rfl) (fun _ _ _ h => h) (Or.inl ⟨by rfl, fun w hS => by go_simp⟩) (by assumption) ?_
      simp [Act.put]
      refine wpAnyH_take (i := 20) (oi := _) (v := (.int .i64 (A : Int))) rfl (by kernel_rfl) (by kernel_rfl) (by kernel_rfl) (fun _ _ _ h => h) (Or.inl ⟨by rfl, fun w hS => by go_simp⟩) (by assumption) ?_
      simp [Act.put]
      refine wpAnyH_take (i := 21) (oi := _) (v := (.slice (some ⟨lb, lo, none⟩) ll lc)) rfl (by kernel_rfl) (by kernel_rfl) (by kernel_rfl) (fun _ _ _ h => h) (Or.inl ⟨by rfl, fun w hS => by go_simp⟩) (by assumption) ?_
      simp [Act.put]
      refine wpAnyH_take (i := 22) (oi := _) (v := (.int .i64 (k : Int))) rfl (by kernel_rfl) (by kernel_rfl) (by kernel_rfl) (fun _ _ _ h => h) (Or.inl ⟨by rfl, fun w hS => by go_simp⟩) (by assumption) ?_
      simp [Act.put]
      refine wpAnyH_take (i := 23) (oi := _) (v := (.pointer (some ⟨lb, lo + k, none⟩))) rfl (by kernel_rfl) (by kernel_rfl) (by kernel_rfl) (fun _ _ _ h => h) (Or.inl ⟨by rfl, fun w hS => by go_simp⟩) (by assumption) ?_
      simp [Act.put]
      refine wpAnyH_take (i := 24) (oi := _) (v := (.int .i64 (m : Int))) rfl (by kernel_rfl) (by kernel_rfl) (by kernel_rfl) (fun _ _ _ h => h) (Or.inl ⟨by rfl, fun w hS => by have hc := hS.2.2; go_simp⟩) (by assumption) ?_
      simp [Act.put]
      refine wpAnyH_take (i := 25) (oi := _) (v := (.int .i64 ((A : Int) + (m : Int)))) rfl (by kernel_rfl) (by kernel_rfl) (by kernel_rfl) (fun _ _ _ h => h) (Or.inl ⟨by rfl, fun w hS => by go_simp⟩) (by assumption) ?_
      simp [Act.put]
      refine wpAnyH_take (i := 26) (oi := _) (v := (.slice (some ⟨b, off + A, none⟩) m (cap - A))) rfl (by kernel_rfl) (by kernel_rfl) (by kernel_rfl) (fun _ _ _ h => h) (Or.inl ⟨by rfl, fun w hS => by go_simp; exact ⟨fun h => by omega, by omega⟩⟩) (by assumption) ?_
      simp [Act.put]
      refine wpAnyH_take (i := 27) (oi := _) (v := (.string (strOfNums ((zs.drop A).take m)))) rfl (by kernel_rfl) (by kernel_rfl) (by kernel_rfl) (fun _ _ _ h => h) (Or.inl ⟨by rfl, fun w hS => by exact exec_conv (.tmp 98) rfl b (off + A) m (cap - A) rfl _ hml hS.1⟩) (by assumption) ?_
      simp [Act.put]
      refine wpAnyH_take (i := 28) (oi := _) (v := (.bool false)) rfl (by kernel_rfl) (by kernel_rfl) (by kernel_rfl) (fun _ _ _ h => h) (Or.inl ⟨by rfl, fun w hS => by go_simp⟩) (by assumption) ?_
      simp [Act.put]
      refine wpAnyH_take (i := 29) (oi := _) (v := (.bool false)) rfl (by kernel_rfl) (by kernel_rfl) (by kernel_rfl) (fun _ _ _ h => h) (Or.inl ⟨by rfl, fun w hS => by go_simp⟩) (by assumption) ?_
      simp [Act.put]
      refine wpAnyH_take (i := 30) (oi := _) (v := (.bool false)) rfl (by kernel_rfl) (by kernel_rfl) (by kernel_rfl) (fun _ _ _ h => h) (Or.inl ⟨by rfl, fun w hS => by go_simp⟩) (by assumption) ?_
      simp [Act.put]
      refine wpAnyH_done (by kernel_rfl) ?_ _
      have BD4 : BytesAt w4.drew b off zs := ⟨B4.1, B4.2⟩
      go_wp2_with fail
      refine hL4.mono ?_; rintro e' w' ⟨rfl, rfl⟩
      go_wp2_with fail
      go_roundw
      case rel => exact ⟨k + 1, A + m, by congr 1, by congr 1, by omega, by omega, RD, BD4, by have := b4.size; simp; omega, fun i hi => by show w4.cell? ⟨lb, lo + i, none⟩ = _; rw [b4.cell (by simp; omega)]; exact HCL.out i hi, bel.trans ((b4.mono hp0).trans (bd4.mono (by have := b4.size; omega)))⟩
      case measure => simp only [intOf]; omega
    · have hd : decide ((k : Int) < (ll : Int)) = false := by rw [decide_eq_false_iff_not]; omega
      go_wp2_with fail
      go_ret
      exact ⟨rfl, bel⟩

set_option maxHeartbeats 16000000 in
set_option maxRecDepth 100000 in
theorem walkEmpty (x : Option Addr) (cap : Nat) (hx : x = none → cap = 0) (lb lo ll lc : Nat) (ls : List Int) (w : World)
    (hll : ll ≤ 200) (hlb : lb < w.heap.size) (hcell : ∀ i, i < ll → w.cell? ⟨lb, lo + i, none⟩ = some (.int .i64 (ls.getD i 0))) :
    Calls Try.prog 11 #[.slice x 0 cap, .slice (some ⟨lb, lo, none⟩) ll lc] w fun e w' => e = .returned (.bool true) ∧ Below w.heap.size w w' := by
  have e0 : (ll : Int) ≤ 200 := by omega
  have HC := Lib.hid hcell
  have HX := Lib.hid hx
  clear hcell hx
  go_enter Try.func11, Try.ntmps11
  go_wp2_with fail
  refine (oNewAny (.slice x 0 cap) [] (by simp) _ (.inl ⟨x, cap, rfl, HX.out, rfl⟩)).mono ?_; rintro e' w1 ⟨p, rfl, hp0, hp1, b01, R1⟩
  go_wp2_with fail
  refine (aliveOctet _).mono ?_; rintro e' w3 ⟨rfl, b13⟩
  have R3 := R1.below b13
  have b03 : Below w.heap.size w w3 := b01.trans (b13.mono b01.size)
  clear R1 b01 b13 hp1
  go_wp2_with fail
  go_loopw [6, 7] (fun at' i wr => ∃ (k : Nat), i = .int .i64 (k : Int) ∧ at' = .int .i64 0 ∧ k ≤ ll ∧ RdAt wr p [] ∧ (∀ i, i < ll → wr.cell? ⟨lb, lo + i, none⟩ = some (.int .i64 (ls.getD i 0))) ∧ Below w.heap.size w wr) (fun _ i _ => (ll - intOf i).toNat)
  case atStart =>
    exact ⟨0, rfl, rfl, by omega, R3, fun i hi => by rw [b03.cell hlb]; exact HC.out i hi, b03⟩
  case round =>
    obtain ⟨k, rfl, rfl, hk, R, hcells, bel⟩ := hrel
    by_cases hlt : k < ll
    · have ck := hcells k hlt
      have HCL := Lib.hid hcells
      clear hcells
      have hlt' : (k : Int) < (ll : Int) := by omega
      have hk0 : (0 : Int) ≤ (k : Int) := by omega
      obtain ⟨x, hx⟩ : ∃ x, ls.getD k 0 = x := ⟨_, rfl⟩
      rw [hx] at ck
      have hL := leftHere _ _ p R
      have hN : Calls Try.prog 27 #[.pointer (some ⟨p, 0, none⟩)] wr fun e w' => e = .returned (.tuple #[.int .u64 0, .int .i64 2]) ∧ wr = w' := by
        obtain ⟨_, _, y, c, h3, _⟩ := R
        exact oNumNone p c y wr h3
      have hW : Calls Try.prog 35 #[.pointer (some ⟨p, 0, none⟩)] wr fun e w' => e = .returned (.tuple #[.int .u64 0, .int .i64 2]) ∧ wr = w' := by
        obtain ⟨_, _, y, c, h3, _⟩ := R
        exact oWordShort p 0 c y (by omega) wr h3
      by_cases c0 : x = 0
      · subst c0
        go_wp2_with fail
        refine hN.mono ?_; rintro e' w' ⟨rfl, rfl⟩
        go_wp2_with fail
        refine (rNumEnd _ 0 cap 0 _ (by omega) (by omega)).mono ?_; rintro e' w' ⟨rfl, rfl⟩
        go_wp2_with fail
        refine hL.mono ?_; rintro e' w' ⟨rfl, rfl⟩
        go_wp2_with fail
        go_roundw
        case rel => exact ⟨k + 1, by congr 1, rfl, by omega, R, fun i hi => HCL.out i hi, bel⟩
        case measure => simp only [intOf]; omega
      by_cases c1 : x = 1
      · subst c1
        go_wp2_with fail
        refine hW.mono ?_; rintro e' w' ⟨rfl, rfl⟩
        go_wp2_with fail
        refine (rWordShort _ 0 cap 0 (by omega) (by omega) (by omega) _).mono ?_; rintro e' w' ⟨rfl, rfl⟩
        go_wp2_with fail
        refine hL.mono ?_; rintro e' w' ⟨rfl, rfl⟩
        go_wp2_with fail
        go_roundw
        case rel => exact ⟨k + 1, by congr 1, rfl, by omega, R, fun i hi => HCL.out i hi, bel⟩
        case measure => simp only [intOf]; omega
      have d0 : (x == 0) = false := by rw [beq_eq_false_iff_ne]; exact c0
      have d1 : (x == 1) = false := by rw [beq_eq_false_iff_ne]; exact c1
      have bd : Below wr.heap.size wr wr.drew := ⟨rfl, rfl, rfl, Nat.le_refl _, fun _ _ => rfl⟩
      have hb0 := bel.size
      have RD := R.below bd
      have hL := leftHere _ _ p RD
      by_cases c2 : x < 0
      · go_wp2_with fail
        refine (oTakeBad p x c2 _).mono ?_; rintro e' w' ⟨rfl, rfl⟩
        go_wp2_with fail
        have HS : True := trivial
        refine wp_region_held_drew (S := fun _ => True) (by kernel_rfl) HS (fun hHeld => ?_)
        refine wpAnyH_take (i := 0) (oi := _) (v := (.int .i64 1)) rfl (by kernel_rfl) (by kernel_rfl) (by kernel_rfl) (fun _ _ _ h => h) (Or.inl ⟨by rfl, fun w hS => by go_simp⟩) (by assumption) ?_
        simp [Act.put]
        refine wpAnyH_take (i := 1) (oi := _) (v := (.int .i64 1)) rfl (by kernel_rfl) (by kernel_rfl) (by kernel_rfl) (fun _ _ _ h => h) (Or.inl ⟨by rfl, fun w hS => by go_simp⟩) (by assumption) ?_
        simp [Act.put]
        refine wpAnyH_take (i := 2) (oi := _) (v := (.bool false)) rfl (by kernel_rfl) (by kernel_rfl) (by kernel_rfl) (fun _ _ _ h => h) (Or.inl ⟨by rfl, fun w hS => by go_simp⟩) (by assumption) ?_
        simp [Act.put]
        refine wpAnyH_take (i := 3) (oi := _) (v := (.bool false)) rfl (by kernel_rfl) (by kernel_rfl) (by kernel_rfl) (fun _ _ _ h => h) (Or.inl ⟨by rfl, fun w hS => by go_simp⟩) (by assumption) ?_
        simp [Act.put]
        refine wpAnyH_take (i := 4) (oi := _) (v := (.int .i64 1)) rfl (by kernel_rfl) (by kernel_rfl) (by kernel_rfl) (fun _ _ _ h => h) (Or.inl ⟨by rfl, fun w hS => by go_simp⟩) (by assumption) ?_
        simp [Act.put]
        refine wpAnyH_take (i := 5) (oi := _) (v := (.bool true)) rfl (by kernel_rfl) (by kernel_rfl) (by kernel_rfl) (fun _ _ _ h => h) (Or.inl ⟨by rfl, fun w hS => by go_simp⟩) (by assumption) ?_
        simp [Act.put]
        refine wpAnyH_take (i := 6) (oi := _) (v := (.bool true)) rfl (by kernel_rfl) (by kernel_rfl) (by kernel_rfl) (fun _ _ _ h => h) (Or.inl ⟨by rfl, fun w hS => by go_simp⟩) (by assumption) ?_
        simp [Act.put]
        refine wpAnyH_take (i := 7) (oi := _) (v := (.slice none 0 0)) rfl (by kernel_rfl) (by kernel_rfl) (by kernel_rfl) (fun _ _ _ h => h) (Or.inl ⟨by rfl, fun w hS => by go_simp⟩) (by assumption) ?_
        simp [Act.put]
        refine wpAnyH_take (i := 8) (oi := _) (v := (.int .i64 0)) rfl (by kernel_rfl) (by kernel_rfl) (by kernel_rfl) (fun _ _ _ h => h) (Or.inl ⟨by rfl, fun w hS => by go_simp⟩) (by assumption) ?_
        simp [Act.put]
        refine wpAnyH_take (i := 9) (oi := _) (v := (.bool false)) rfl (by kernel_rfl) (by kernel_rfl) (by kernel_rfl) (fun _ _ _ h => h) (Or.inl ⟨by rfl, fun w hS => by go_simp⟩) (by assumption) ?_
        simp [Act.put]
        refine wpAnyH_take (i := 10) (oi := _) (v := (.bool false)) rfl (by kernel_rfl) (by kernel_rfl) (by kernel_rfl) (fun _ _ _ h => h) (Or.inl ⟨by rfl, fun w hS => by go_simp⟩) (by assumption) ?_
        simp [Act.put]
        refine wpAnyH_take (i := 11) (oi := _) (v := (.bool false)) rfl (by kernel_rfl) (by kernel_rfl) (by kernel_rfl) (fun _ _ _ h => h) (Or.inl ⟨by rfl, fun w hS => by go_simp⟩) (by assumption) ?_
        simp [Act.put]
        refine wpAnyH_take (i := 12) (oi := _) (v := (.bool false)) rfl (by kernel_rfl) (by kernel_rfl) (by kernel_rfl) (fun _ _ _ h => h) (Or.inl ⟨by rfl, fun w hS => by go_simp⟩) (by assumption) ?_
        simp [Act.put]
        refine wpAnyH_take (i := 13) (oi := _) (v := (.int .i64 1)) rfl (by kernel_rfl) (by kernel_rfl) (by kernel_rfl) (fun _ _ _ h => h) (Or.inl ⟨by rfl, fun w hS => by go_simp⟩) (by assumption) ?_
        simp [Act.put]
        refine wpAnyH_take (i := 14) (oi := _) (v := (.bool false)) rfl (by kernel_rfl) (by kernel_rfl) (by kernel_rfl) (fun _ _ _ h => h) (Or.inl ⟨by rfl, fun w hS => by go_simp⟩) (by assumption) ?_
        simp [Act.put]
        refine wpAnyH_take (i := 15) (oi := _) (v := (.bool false)) rfl (by kernel_rfl) (by kernel_rfl) (by kernel_rfl) (fun _ _ _ h => h) (Or.inl ⟨by rfl, fun w hS => by go_simp⟩) (by assumption) ?_
        simp [Act.put]
        refine wpAnyH_take (i := 16) (oi := _) (v := undef) rfl (by kernel_rfl) (by kernel_rfl) (by kernel_rfl) (fun _ _ _ h => h) (Or.inr ⟨by rfl, rfl⟩) (by assumption) ?_
        simp [Act.put]
        refine wpAnyH_take (i := 17) (oi := _) (v := undef) rfl (by kernel_rfl) (by kernel_rfl) (by kernel_rfl) (fun _ _ _ h => h) (Or.inr ⟨by rfl, rfl⟩) (by assumption) ?_
        simp [Act.put]
        refine wpAnyH_take (i := 18) (oi := _) (v := undef) rfl (by kernel_rfl) (by kernel_rfl) (by kernel_rfl) (fun _ _ _ h => h) (Or.inr ⟨by rfl, rfl⟩) (by assumption) ?_
        simp [Act.put]
        refine wpAnyH_take (i := 19) (oi := _) (v := undef) rfl (by kernel_rfl) (by kernel_rfl) (by kernel_rfl) (fun _ _ _ h => h) (Or.inr ⟨by rfl, rfl⟩) (by assumption) ?_
        simp [Act.put]
        refine wpAnyH_take (i := 20) (oi := _) (v := undef) rfl (by kernel_rfl) (by kernel_rfl) (by kernel_rfl) (fun _ _ _ h => h) (Or.inr ⟨by rfl, rfl⟩) (by assumption) ?_
        simp [Act.put]
        refine wpAnyH_take (i := 21) (oi := _) (v := undef) rfl (by kernel_rfl) (by kernel_rfl) (by kernel_rfl) (fun _ _ _ h => h) (Or.inr ⟨by rfl, rfl⟩) (by assumption) ?_
        simp [Act.put]
        refine wpAnyH_take (i := 22) (oi := _) (v := undef) rfl (by kernel_rfl) (by kernel_rfl) (by kernel_rfl) (fun _ _ _ h => h) (Or.inr ⟨by rfl, rfl⟩) (by assumption) ?_
        simp [Act.put]
        refine wpAnyH_take (i := 23) (oi := _) (v := undef) rfl (by kernel_rfl) (by kernel_rfl) (by kernel_rfl) (fun _ _ _ h => h) (Or.inr ⟨by rfl, rfl⟩) (by assumption) ?_
        simp [Act.put]
        refine wpAnyH_take (i := 24) (oi := _) (v := undef) rfl (by kernel_rfl) (by kernel_rfl) (by kernel_rfl) (fun _ _ _ h => h) (Or.inr ⟨by rfl, rfl⟩) (by assumption) ?_
        simp [Act.put]
        refine wpAnyH_take (i := 25) (oi := _) (v := undef) rfl (by kernel_rfl) (by kernel_rfl) (by kernel_rfl) (fun _ _ _ h => h) (Or.inr ⟨by rfl, rfl⟩) (by assumption) ?_
        simp [Act.put]
        refine wpAnyH_take (i := 26) (oi := _) (v := undef) rfl (by kernel_rfl) (by kernel_rfl) (by kernel_rfl) (fun _ _ _ h => h) (Or.inr ⟨by rfl, rfl⟩) (by assumption) ?_
        simp [Act.put]
        refine wpAnyH_take (i := 27) (oi := _) (v := undef) rfl (by kernel_rfl) (by kernel_rfl) (by kernel_rfl) (fun _ _ _ h => h) (Or.inr ⟨by rfl, rfl⟩) (by assumption) ?_
        simp [Act.put]
        refine wpAnyH_take (i := 28) (oi := _) (v := undef) rfl (by kernel_rfl) (by kernel_rfl) (by kernel_rfl) (fun _ _ _ h => h) (Or.inr ⟨by rfl, rfl⟩) (by assumption) ?_
        simp [Act.put]
        refine wpAnyH_take (i := 29) (oi := _) (v := (.bool false)) rfl (by kernel_rfl) (by kernel_rfl) (by kernel_rfl) (fun _ _ _ h => h) (Or.inl ⟨by rfl, fun w hS => by go_simp⟩) (by assumption) ?_
        simp [Act.put]
        refine wpAnyH_take (i := 30) (oi := _) (v := (.bool false)) rfl (by kernel_rfl) (by kernel_rfl) (by kernel_rfl) (fun _ _ _ h => h) (Or.inl ⟨by rfl, fun w hS => by go_simp⟩) (by assumption) ?_
        simp [Act.put]
        refine wpAnyH_done (by kernel_rfl) ?_ _
        go_wp2_with fail
        refine hL.mono ?_; rintro e' w' ⟨rfl, rfl⟩
        go_wp2_with fail
        go_roundw
        case rel => exact ⟨k + 1, by congr 1, rfl, by omega, RD, fun i hi => HCL.out i hi, bel.trans (bd.mono hb0)⟩
        case measure => simp only [intOf]; omega
      · have c3 : (0 : Int) < x := by omega
        go_wp2_with fail
        refine (takeShort _ x (by simpa using c3) _ p R).mono ?_; rintro e' w' ⟨rfl, rfl⟩
        go_wp2_with fail
        have HS : True := trivial
        refine wp_region_held_drew (S := fun _ => True) (by kernel_rfl) HS (fun hHeld => ?_)
        refine wpAnyH_take (i := 0) (oi := _) (v := (.int .i64 2)) rfl (by kernel_rfl) (by kernel_rfl) (by kernel_rfl) (fun _ _ _ h => h) (Or.inl ⟨by rfl, fun w hS => by go_simp⟩) (by assumption) ?_
        simp [Act.put]
        refine wpAnyH_take (i := 1) (oi := _) (v := (.int .i64 2)) rfl (by kernel_rfl) (by kernel_rfl) (by kernel_rfl) (fun _ _ _ h => h) (Or.inl ⟨by rfl, fun w hS => by go_simp⟩) (by assumption) ?_
        simp [Act.put]
        refine wpAnyH_take (i := 2) (oi := _) (v := (.bool false)) rfl (by kernel_rfl) (by kernel_rfl) (by kernel_rfl) (fun _ _ _ h => h) (Or.inl ⟨by rfl, fun w hS => by go_simp⟩) (by assumption) ?_
        simp [Act.put]
        refine wpAnyH_take (i := 3) (oi := _) (v := (.bool false)) rfl (by kernel_rfl) (by kernel_rfl) (by kernel_rfl) (fun _ _ _ h => h) (Or.inl ⟨by rfl, fun w hS => by go_simp⟩) (by assumption) ?_
        simp [Act.put]
        refine wpAnyH_take (i := 4) (oi := _) (v := (.int .i64 2)) rfl (by kernel_rfl) (by kernel_rfl) (by kernel_rfl) (fun _ _ _ h => h) (Or.inl ⟨by rfl, fun w hS => by go_simp⟩) (by assumption) ?_
        simp [Act.put]
        refine wpAnyH_take (i := 5) (oi := _) (v := (.bool true)) rfl (by kernel_rfl) (by kernel_rfl) (by kernel_rfl) (fun _ _ _ h => h) (Or.inl ⟨by rfl, fun w hS => by go_simp⟩) (by assumption) ?_
        simp [Act.put]
        refine wpAnyH_take (i := 6) (oi := _) (v := (.bool true)) rfl (by kernel_rfl) (by kernel_rfl) (by kernel_rfl) (fun _ _ _ h => h) (Or.inl ⟨by rfl, fun w hS => by go_simp⟩) (by assumption) ?_
        simp [Act.put]
        refine wpAnyH_take (i := 7) (oi := _) (v := (.slice none 0 0)) rfl (by kernel_rfl) (by kernel_rfl) (by kernel_rfl) (fun _ _ _ h => h) (Or.inl ⟨by rfl, fun w hS => by go_simp⟩) (by assumption) ?_
        simp [Act.put]
        refine wpAnyH_take (i := 8) (oi := _) (v := (.int .i64 0)) rfl (by kernel_rfl) (by kernel_rfl) (by kernel_rfl) (fun _ _ _ h => h) (Or.inl ⟨by rfl, fun w hS => by go_simp⟩) (by assumption) ?_
        simp [Act.put]
        refine wpAnyH_take (i := 9) (oi := _) (v := (.bool false)) rfl (by kernel_rfl) (by kernel_rfl) (by kernel_rfl) (fun _ _ _ h => h) (Or.inl ⟨by rfl, fun w hS => by go_simp⟩) (by assumption) ?_
        simp [Act.put]
        refine wpAnyH_take (i := 10) (oi := _) (v := (.bool false)) rfl (by kernel_rfl) (by kernel_rfl) (by kernel_rfl) (fun _ _ _ h => h) (Or.inl ⟨by rfl, fun w hS => by go_simp⟩) (by assumption) ?_
        simp [Act.put]
        refine wpAnyH_take (i := 11) (oi := _) (v := (.bool false)) rfl (by kernel_rfl) (by kernel_rfl) (by kernel_rfl) (fun _ _ _ h => h) (Or.inl ⟨by rfl, fun w hS => by go_simp⟩) (by assumption) ?_
        simp [Act.put]
        refine wpAnyH_take (i := 12) (oi := _) (v := (.bool false)) rfl (by kernel_rfl) (by kernel_rfl) (by kernel_rfl) (fun _ _ _ h => h) (Or.inl ⟨by rfl, fun w hS => by go_simp⟩) (by assumption) ?_
        simp [Act.put]
        refine wpAnyH_take (i := 13) (oi := _) (v := (.int .i64 2)) rfl (by kernel_rfl) (by kernel_rfl) (by kernel_rfl) (fun _ _ _ h => h) (Or.inl ⟨by rfl, fun w hS => by go_simp⟩) (by assumption) ?_
        simp [Act.put]
        refine wpAnyH_take (i := 14) (oi := _) (v := (.bool false)) rfl (by kernel_rfl) (by kernel_rfl) (by kernel_rfl) (fun _ _ _ h => h) (Or.inl ⟨by rfl, fun w hS => by go_simp⟩) (by assumption) ?_
        simp [Act.put]
        refine wpAnyH_take (i := 15) (oi := _) (v := (.bool false)) rfl (by kernel_rfl) (by kernel_rfl) (by kernel_rfl) (fun _ _ _ h => h) (Or.inl ⟨by rfl, fun w hS => by go_simp⟩) (by assumption) ?_
        simp [Act.put]
        refine wpAnyH_take (i := 16) (oi := _) (v := undef) rfl (by kernel_rfl) (by kernel_rfl) (by kernel_rfl) (fun _ _ _ h => h) (Or.inr ⟨by rfl, rfl⟩) (by assumption) ?_
        simp [Act.put]
        refine wpAnyH_take (i := 17) (oi := _) (v := undef) rfl (by kernel_rfl) (by kernel_rfl) (by kernel_rfl) (fun _ _ _ h => h) (Or.inr ⟨by rfl, rfl⟩) (by assumption) ?_
        simp [Act.put]
        refine wpAnyH_take (i := 18) (oi := _) (v := undef) rfl (by kernel_rfl) (by kernel_rfl) (by kernel_rfl) (fun _ _ _ h => h) (Or.inr ⟨by rfl, rfl⟩) (by assumption) ?_
        simp [Act.put]
        refine wpAnyH_take (i := 19) (oi := _) (v := undef) rfl (by kernel_rfl) (by kernel_rfl) (by kernel_rfl) (fun _ _ _ h => h) (Or.inr ⟨by rfl, rfl⟩) (by assumption) ?_
        simp [Act.put]
        refine wpAnyH_take (i := 20) (oi := _) (v := undef) rfl (by kernel_rfl) (by kernel_rfl) (by kernel_rfl) (fun _ _ _ h => h) (Or.inr ⟨by rfl, rfl⟩) (by assumption) ?_
        simp [Act.put]
        refine wpAnyH_take (i := 21) (oi := _) (v := undef) rfl (by kernel_rfl) (by kernel_rfl) (by kernel_rfl) (fun _ _ _ h => h) (Or.inr ⟨by rfl, rfl⟩) (by assumption) ?_
        simp [Act.put]
        refine wpAnyH_take (i := 22) (oi := _) (v := undef) rfl (by kernel_rfl) (by kernel_rfl) (by kernel_rfl) (fun _ _ _ h => h) (Or.inr ⟨by rfl, rfl⟩) (by assumption) ?_
        simp [Act.put]
        refine wpAnyH_take (i := 23) (oi := _) (v := undef) rfl (by kernel_rfl) (by kernel_rfl) (by kernel_rfl) (fun _ _ _ h => h) (Or.inr ⟨by rfl, rfl⟩) (by assumption) ?_
        simp [Act.put]
        refine wpAnyH_take (i := 24) (oi := _) (v := undef) rfl (by kernel_rfl) (by kernel_rfl) (by kernel_rfl) (fun _ _ _ h => h) (Or.inr ⟨by rfl, rfl⟩) (by assumption) ?_
        simp [Act.put]
        refine wpAnyH_take (i := 25) (oi := _) (v := undef) rfl (by kernel_rfl) (by kernel_rfl) (by kernel_rfl) (fun _ _ _ h => h) (Or.inr ⟨by rfl, rfl⟩) (by assumption) ?_
        simp [Act.put]
        refine wpAnyH_take (i := 26) (oi := _) (v := undef) rfl (by kernel_rfl) (by kernel_rfl) (by kernel_rfl) (fun _ _ _ h => h) (Or.inr ⟨by rfl, rfl⟩) (by assumption) ?_
        simp [Act.put]
        refine wpAnyH_take (i := 27) (oi := _) (v := undef) rfl (by kernel_rfl) (by kernel_rfl) (by kernel_rfl) (fun _ _ _ h => h) (Or.inr ⟨by rfl, rfl⟩) (by assumption) ?_
        simp [Act.put]
        refine wpAnyH_take (i := 28) (oi := _) (v := undef) rfl (by kernel_rfl) (by kernel_rfl) (by kernel_rfl) (fun _ _ _ h => h) (Or.inr ⟨by rfl, rfl⟩) (by assumption) ?_
        simp [Act.put]
        refine wpAnyH_take (i := 29) (oi := _) (v := (.bool false)) rfl (by kernel_rfl) (by kernel_rfl) (by kernel_rfl) (fun _ _ _ h => h) (Or.inl ⟨by rfl, fun w hS => by go_simp⟩) (by assumption) ?_
        simp [Act.put]
        refine wpAnyH_take (i := 30) (oi := _) (v := (.bool false)) rfl (by kernel_rfl) (by kernel_rfl) (by kernel_rfl) (fun _ _ _ h => h) (Or.inl ⟨by rfl, fun w hS => by go_simp⟩) (by assumption) ?_
        simp [Act.put]
        refine wpAnyH_done (by kernel_rfl) ?_ _
        go_wp2_with fail
        refine hL.mono ?_; rintro e' w' ⟨rfl, rfl⟩
        go_wp2_with fail
        go_roundw
        case rel => exact ⟨k + 1, by congr 1, rfl, by omega, RD, fun i hi => HCL.out i hi, bel.trans (bd.mono hb0)⟩
        case measure => simp only [intOf]; omega
    · have hd : decide ((k : Int) < (ll : Int)) = false := by rw [decide_eq_false_iff_not]; omega
      go_wp2_with fail
      go_ret
      exact ⟨rfl, bel⟩

set_option maxHeartbeats 1000000 in
set_option maxRecDepth 100000 in
theorem walkShort (bv : Value) (bs : List Int) (hbl : bs.length ≤ 140737488351232) (la : Option Addr) (ll lc : Nat) (w : World) (hB : BodyAt w bv bs) (h : ll = 0 ∨ 200 < ll) (hl9 : ll ≤ 9223372036854775807) :
    Calls Try.prog 11 #[bv, .slice la ll lc] w fun e w' => e = .returned (.bool true) ∧ Below w.heap.size w w' := by
  rcases h with rfl | h
  · go_enter Try.func11, Try.ntmps11
    go_wp2_with fail
    refine (oNewAny bv bs hbl _ hB).mono ?_; rintro e' w1 ⟨p, rfl, hp0, hp1, b01, R1⟩
    go_wp2_with fail
    refine (aliveOctet _).mono ?_; rintro e' w3 ⟨rfl, b13⟩
    go_wp2_with fail
    refine wp_loop_rounds 1 ?_; rw [rounds_succ]
    go_wp2_with fail
    go_ret
    exact ⟨rfl, b01.trans (b13.mono b01.size)⟩
  · have e2 : (200 : Int) < (ll : Int) := by omega
    go_enter Try.func11, Try.ntmps11
    go_wp2_with fail
    refine (oNewAny bv bs hbl _ hB).mono ?_; rintro e' w1 ⟨p, rfl, hp0, hp1, b01, R1⟩
    go_wp2_with fail
    refine (aliveOctet _).mono ?_; rintro e' w3 ⟨rfl, b13⟩
    have b03 := b01.trans (b13.mono b01.size)
    go_wp2_with fail
    refine (aliveOctet _).mono ?_; rintro e' w4 ⟨rfl, b34⟩
    go_wp2_with fail
    go_ret
    exact ⟨rfl, b03.trans (b34.mono b03.size)⟩

theorem walk (a0 : Option Addr) (len0 cap0 : Nat) (z0 : List Int) (a1 : Option Addr) (len1 cap1 : Nat) (z1 : List Int) (w : World) (w0 : IsRow .u8 w a0 len0 cap0 z0) (s0 : cap0 ≤ 140737488351232) (w1 : IsRow .i64 w a1 len1 cap1 z1) :
    Calls Try.prog 11 #[.slice a0 len0 cap0, .slice a1 len1 cap1] w fun e w' => e = .returned (.bool true) ∧ Below w.heap.size w w' := by
  obtain ⟨bs, hB, hb, hl⟩ := body_of_row w0
  by_cases hs : len1 = 0 ∨ 200 < len1
  · refine walkShort _ bs (by omega) a1 len1 cap1 w hB hs ?_
    rcases w1 with ⟨rfl, rfl, rfl, rfl⟩ | ⟨x, rfl, h1, hm, _⟩
    · omega
    · unfold maxLen at hm; omega
  rcases w1 with ⟨_, h, _⟩ | ⟨y, rfl, hl1, hm, hz, hc, hw⟩
  · omega
  obtain ⟨lb, lo, spot⟩ := y
  have h1 := hc 0 (by omega)
  obtain ⟨p1, p2⟩ := cell_plain h1
  have hsp : spot = none := by simpa [Addr.add] using p1
  subst hsp
  have hcl : ∀ i, i < len1 → w.cell? ⟨lb, lo + i, none⟩ = some (.int .i64 (z1.getD i 0)) := fun i hi => by
    have h2 := hc i (by omega)
    rwa [addr_add] at h2
  rcases hB with ⟨x, c', h1', h2', h3'⟩ | ⟨g, o, c', h1', h2', h3', h4', h5'⟩
  · injection h1' with e1 e2 e3
    subst e1 e2 e3
    exact walkEmpty a0 cap0 h2' lb lo len1 cap1 z1 w (by omega) (by simpa [Addr.add] using p2) hcl
  · injection h1' with e1 e2 e3
    subst e1 e2 e3
    exact walkSome g o _ cap0 bs hb lb lo len1 cap1 z1 w rfl h3' s0 h2' h5' (by omega) (by simpa [Addr.add] using p2) hcl

/-! ### the row's step -/
set_option maxRecDepth 100000 in
theorem lifted (os : Os) (started : os.Started) (H : Type) (enc : TypeId × Value → H) :
    ReturnsInHanded {} Try.checked os 11 .any (Rows.octetReadsSpec.pre6 enc Try.prog Try.f11 Rows.octetReadsRow.domain false) (Rows.octetReadsSpec.post enc Try.prog Try.f11 false true false false) := by
  refine returnsInHanded_of_change_sized (C := Try.checked) own started (by kernel_rfl) Try.func11
    (ChangeSpec.witness6 (enc := enc) (C := Try.checked) false ⟨#[], #[.slice none 0 0, .slice none 0 0], []⟩ 8 (by kernel_rfl) (by kernel_rfl) (by kernel_rfl) (by kernel_rfl)) ?_
  intro W base args ds gs before hval0 hW hcnd hsz0 _
  have hsz : (DataW.weightsEach Try.prog (Try.f11.params.toList ++ Rows.octetReadsSpec.plain.varTypes Try.prog) (ds ++ gs)).all (· ≤ reachBytes) = true := hsz0
  clear hsz0
  have hval : ∀ (j : Nat) t v, Try.f11.params[j]? = some t → args[j]? = some v → Value.okWide Try.prog W .any base t v := hval0
  have hW' := hW
  obtain ⟨p, q, hA0, hV, rfl, hfz, hnd⟩ := hW
  have hA : DataW.TrodAll enc Try.prog W 0 (fun _ => true) true Try.f11.params.toList args.toList ds p := hA0
  rw [Try.params11] at hA hval hsz
  obtain ⟨v0, vs0, d0, ds0, p0, q0, hargs, rfl, rfl, h0, r0⟩ := trodAll_cons hA
  obtain ⟨v1, vs1, d1, ds1, p1, q1, rfl, rfl, rfl, h1, r1⟩ := trodAll_cons r0
  obtain ⟨rfl, rfl, rfl⟩ := trodAll_nil r1
  obtain rfl : args = #[v0, v1] := by cases args; simp_all
  obtain ⟨rfl, rfl⟩ := trodVars_none hV
  obtain ⟨a0, len0, cap0, rfl⟩ := okWide_slice Try.underlying34 (hval 0 34 v0 rfl rfl)
  have k0 := h0
  have lt0 : ∀ x ∈ p0, x.block < W.heap.size := by obtain ⟨m, hm⟩ := k0; exact DataW.trod_lt m _ _ _ hm
  obtain ⟨z0, w0, s0⟩ : ∃ zs, IsRow .u8 W a0 len0 cap0 zs ∧ cap0 ≤ 140737488351232 := by
    obtain ⟨fuel, hf⟩ := h0
    rcases open_ints Try.underlying34 Try.underlying5 (by kernel_rfl) hf with ⟨hcs, _⟩ | ⟨x, l, c, zs, hcs, _, hl, hm, hz, hx, hcell, hwz⟩
    · simp [Value.cells] at hcs
      obtain ⟨rfl, rfl, rfl⟩ := hcs
      exact ⟨[], .inl ⟨rfl, rfl, rfl, rfl⟩, by omega⟩
    · simp [Value.cells] at hcs
      obtain ⟨rfl, rfl, rfl⟩ := hcs
      have hd := (Prod.mk.inj hx).1
      have hr := sized_slice hsz (j := 0) (t := 34) (e := 5) rfl (by rw [← hd]; rfl) Try.underlying34
      rw [show Try.prog.bytesOf 5 = 1 from by kernel_rfl] at hr
      simp only [lits, List.length_map, List.length_take, List.length_drop, reachBytes] at hr
      have hz' : zs.length = cap0 := by simpa using hz
      exact ⟨zs, .inr ⟨_, rfl, hl, hm, hz', hcell, hwz⟩, by omega⟩
  obtain ⟨a1, len1, cap1, rfl⟩ := okWide_slice Try.underlying49 (hval 1 49 v1 rfl rfl)
  have k1 := h1
  have lt1 : ∀ x ∈ p1, x.block < W.heap.size := by obtain ⟨m, hm⟩ := k1; exact DataW.trod_lt m _ _ _ hm
  obtain ⟨z1, w1⟩ : ∃ zs, IsRow .i64 W a1 len1 cap1 zs := by
    obtain ⟨fuel, hf⟩ := h1
    rcases open_ints Try.underlying49 Try.underlying3 (by kernel_rfl) hf with ⟨hcs, _⟩ | ⟨x, l, c, zs, hcs, _, hl, hm, hz, _, hcell, hwz⟩
    · simp [Value.cells] at hcs
      obtain ⟨rfl, rfl, rfl⟩ := hcs
      exact ⟨[], .inl ⟨rfl, rfl, rfl, rfl⟩⟩
    · simp [Value.cells] at hcs
      obtain ⟨rfl, rfl, rfl⟩ := hcs
      exact ⟨zs, .inr ⟨_, rfl, hl, hm, by simpa using hz, hcell, hwz⟩⟩
  clear hA0 hval0
  refine (walk a0 len0 cap0 z0 a1 len1 cap1 z1 W w0 s0 w1).mono fun e W' ⟨he, bel⟩ => ?_
  subst he
  exact ⟨_, rfl, _, _, _, [], _, [], hW', trodAll_mk1 (shut_bool Try.underlying4 _), (trodAll_cons_mk (Below.trod laidOut (by kernel_rfl) (of_decide_eq_true (by kernel_rfl)) k0 bel lt0) (trodAll_cons_mk (Below.trod laidOut (by kernel_rfl) (of_decide_eq_true (by kernel_rfl)) k1 bel lt1) trodAll_mk0)), rfl, bel.frame _, fun h => by cases h⟩

theorem over : Rows.octetReadsRow.holds Try.pinned (OpenSpec.ofChange Rows.octetReadsSpec) :=
  OpenClaim.holds_of_wide 11 Try.f11 rfl rfl rfl rfl rfl rfl rfl ⟨rfl, rfl, rfl, rfl, rfl⟩ rfl rfl rfl rfl rfl (by kernel_rfl) Try.func11 (by kernel_rfl)
    (of_decide_eq_true (by kernel_rfl)) (by unfold Func.isWrapper; first | (rw [if_pos (by decide +kernel)]; kernel_rfl) | (rw [if_neg (by decide +kernel)]; exact ⟨rfl, rfl⟩))
    (fun os started H enc _ => lifted os started H enc)

/-- THE STATEMENT -/
theorem proved : Rows.OctetReadsSaid := over
end Go.Proofs.Ytinbfjkonaohnaa.octetReads
