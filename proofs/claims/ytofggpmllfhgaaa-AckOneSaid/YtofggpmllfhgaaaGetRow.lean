/- the reference's getRow. -/
import Derived.Test.YtofggpmllfhgaaaSpans
namespace Go.Proofs.Ytofggpmllfhgaaa
open Go.RowKit Go.Lib
set_option linter.unusedVariables false
set_option maxRecDepth 100000

set_option maxHeartbeats 8000000 in
set_option maxRecDepth 100000 in
theorem rGetRow (g o cap : Nat) (bs : List Int) (hb : ∀ x ∈ bs, 0 ≤ x ∧ x ≤ 255) (hlen : bs.length ≤ 140737488351232) (at' : Nat) (hat : at' ≤ bs.length) (hcap : bs.length ≤ cap) (least : Int) (hle : 0 ≤ least ∧ least ≤ 1) (E : Int) (l : List (Int × Int)) (rest : List Int) (hG : getRowF least (bs.drop at') = (E, l, rest)) (w : World) (hB : BytesAt w g o bs) :
    Calls Try.prog 57 #[.slice (some ⟨g, o, none⟩) bs.length cap, .int .i64 (at' : Int), .int .i64 least] w fun e w' => ∃ v at2, e = .returned (.tuple #[v, .int .i64 at2, .int .i64 E]) ∧ Below w.heap.size w w' ∧ (E ≠ 0 → v = .slice none 0 0) ∧ (E = 0 → ∃ A : Nat, at2 = (A : Int) ∧ A ≤ bs.length ∧ bs.drop A = rest ∧ w'.ownsRow w.heap.size 84 2 v l.length (flatS l)) := by
  obtain ⟨i, hi, hzz, hs, hbb⟩ := info_parts (P := Try.prog) (e := 84) (z := .agg #[.int .u64 0, .int .u64 0]) (size := 2) (bytes := 16) (by kernel_rfl)
  have hgw := hB.1
  obtain ⟨len, hln⟩ : ∃ n, n = bs.length := ⟨_, rfl⟩
  have HLN := Lib.hid hln
  rw [← hln] at hat hcap hlen ⊢
  have HBY := Lib.hid hb
  clear hln hb
  have hA0 : (0 : Int) ≤ (at' : Int) := by omega
  have hA1 : (at' : Int) ≤ (len : Int) := by omega
  have hlI : (len : Int) ≤ 140737488351232 := by omega
  by_cases hend : len ≤ at'
  · have hnil : bs.drop at' = [] := List.drop_eq_nil_of_le (by rw [← HLN.out]; exact hend)
    rw [hnil, getRowF, Prod.mk.injEq, Prod.mk.injEq] at hG
    obtain ⟨rfl, rfl, rfl⟩ := hG
    have he : (len : Int) ≤ (at' : Int) := by omega
    go_enter Try.func57, Try.ntmps57
    go_wp2_with fail
    exact bodyPost_ret (v := .tuple #[.slice none 0 0, .int .i64 (at' : Int), .int .i64 2]) (by simp [results, Try.results57, go_sem]) rfl (by first | exact ⟨.slice none 0 0, _, rfl, Below.refl _ _, fun _ => rfl, fun h => by simp at h⟩ | exact ⟨⟨_, rfl⟩, Below.refl _ _⟩)
  obtain ⟨n, zs, hd⟩ : ∃ n zs, bs.drop at' = n :: zs := by
    rcases h : bs.drop at' with _ | ⟨n, zs⟩
    · have := congrArg List.length h
      rw [List.length_drop, ← HLN.out] at this
      simp at this
      omega
    · exact ⟨n, zs, rfl⟩
  have hn : 0 ≤ n ∧ n ≤ 255 := HBY.out n (List.mem_of_mem_drop (by rw [hd]; simp))
  have hd1 : bs.drop (at' + 1) = zs := by rw [← List.drop_drop, hd]; rfl
  have cn : w.cell? ⟨g, o + at', none⟩ = some (.int .u8 n) := by
    have h := (BytesAt.drop hB at').2 0 (by rw [hd]; simp)
    rw [hd] at h
    simpa using h
  have hlt0 : (at' : Int) < (len : Int) := by omega
  have hge : ¬ (len : Int) ≤ (at' : Int) := by omega
  rw [hd, getRowF] at hG
  have HB := Lib.hid hB
  have HD1 := Lib.hid hd1
  clear hd hd1 hB
  by_cases hx : n < least ∨ 32 < n
  · rw [if_pos hx, Prod.mk.injEq, Prod.mk.injEq] at hG
    obtain ⟨rfl, rfl, rfl⟩ := hG
    rcases (by omega : n < least ∨ (least ≤ n ∧ 32 < n)) with h | ⟨h, h'⟩
    · go_enter Try.func57, Try.ntmps57
      go_wp2_with fail
      exact bodyPost_ret (v := .tuple #[.slice none 0 0, .int .i64 ((at' : Int) + 1), .int .i64 5]) (by simp [results, Try.results57, go_sem]) rfl (by first | exact ⟨.slice none 0 0, _, rfl, Below.refl _ _, fun _ => rfl, fun h => by simp at h⟩ | exact ⟨⟨_, rfl⟩, Below.refl _ _⟩)
    · go_enter Try.func57, Try.ntmps57
      go_wp2_with fail
      exact bodyPost_ret (v := .tuple #[.slice none 0 0, .int .i64 ((at' : Int) + 1), .int .i64 5]) (by simp [results, Try.results57, go_sem]) rfl (by first | exact ⟨.slice none 0 0, _, rfl, Below.refl _ _, fun _ => rfl, fun h => by simp at h⟩ | exact ⟨⟨_, rfl⟩, Below.refl _ _⟩)
  rw [if_neg hx] at hG
  obtain ⟨n, rfl⟩ : ∃ m : Nat, n = (m : Int) := ⟨n.toNat, by omega⟩
  rw [Int.toNat_natCast] at hG
  have h1 : least ≤ (n : Int) := by omega
  have h2 : (n : Int) ≤ 32 := by omega
  have HG := Lib.hid hG
  clear hx hG
  go_enter Try.func57, Try.ntmps57
  go_wp2_with fail
  go_loopw [1, 10, 11, 12] (fun atv v lowv i wr => ∃ (k A : Nat) (low : Int) (ls l' : List (Int × Int)) (rest' : List Int), i = .int .i64 (k : Int) ∧ lowv = .int .u64 low ∧ atv = .int .i64 (A : Int) ∧ k ≤ n ∧ A ≤ len ∧ ls.length = k ∧ rowF low (n - k) (bs.drop A) = (E, l', rest') ∧ (E = 0 → ls ++ l' = l ∧ rest' = rest) ∧ (0 ≤ low ∧ low ≤ 4611686018427387905) ∧ wr.ownsRow w.heap.size 84 2 v k (flatS ls) ∧ Below w.heap.size w wr) (fun _ _ _ i _ => (n - intOf i).toNat)
  case atStart =>
    exact ⟨0, at' + 1, 0, [], l, rest, rfl, rfl, rfl, by omega, by omega, rfl, by rw [HD1.out]; exact HG.out, fun _ => ⟨rfl, rfl⟩, by omega, World.ownsRow_nil _ _ _ _, Below.refl _ _⟩
  case round =>
    obtain ⟨k, A, low, ls, l', rest', rfl, rfl, rfl, hk, hA, hlk, hrow, hE, hlow, own, bel⟩ := hrel
    have hk0 : (0 : Int) ≤ (k : Int) := by omega
    have HE := Lib.hid hE
    have HLK := Lib.hid hlk
    have OWN := Lib.hid own
    have sb := bel.size
    clear hE hlk own cn
    by_cases hlt : k < n
    · have hlt' : (k : Int) < (n : Int) := by omega
      obtain ⟨m, hm⟩ : ∃ m, n - k = m + 1 := ⟨n - k - 1, by omega⟩
      rw [hm, rowF_succ] at hrow
      have B4 : BytesAt wr g o bs := HB.out.below bel
      obtain ⟨hT, hK⟩ := numThere bs A HBY.out (by rw [← HLN.out]; exact hA) (by rw [← HLN.out]; exact hlen)
      have HT := hT wr g o cap B4
      rw [← HLN.out] at HT hK
      have hZ := numF_zero (bs.drop A) (byte_drop HBY.out _)
      go_wp2_with fail
      refine HT.mono ?_; rintro e' w' ⟨rfl, rfl⟩
      clear HT hT
      by_cases e1 : (numF (bs.drop A)).2.2 = 0
      case neg =>
        have hO : oneF low (bs.drop A) = ((numF (bs.drop A)).2.2, (0, 0), []) := by rw [oneF, if_neg e1]
        rw [hO] at hrow
        simp only at hrow
        rw [if_neg e1, Prod.mk.injEq, Prod.mk.injEq] at hrow
        obtain ⟨hE', _, _⟩ := hrow
        have hd : (E != 0) = true := by rw [bne_iff_ne, ← hE']; exact e1
        have hne : E ≠ 0 := by rw [← hE']; exact e1
        rw [hE']
        clear hO hZ
        generalize (numF (bs.drop A)).1 = nn at *
        generalize (numF (bs.drop A)).2.1 = kk at *
        go_wp2_with fail
        exact bodyPost_ret (v := .tuple #[.slice none 0 0, .int .i64 (A : Int), .int .i64 E]) (by simp [results, Try.results57, go_sem]) rfl (by first | exact ⟨.slice none 0 0, _, rfl, bel, fun _ => rfl, fun h => absurd h hne⟩ | exact ⟨⟨_, rfl⟩, bel⟩)
      rw [e1]
      have hb1 := (hZ e1).1
      obtain ⟨a1, ha1⟩ : ∃ a, a = (numF (bs.drop A)).1 := ⟨_, rfl⟩
      rw [← ha1] at hb1 ⊢
      have HA1 := Lib.hid ha1
      obtain ⟨A2, hA2⟩ : ∃ a, a = A + (numF (bs.drop A)).2.1 := ⟨_, rfl⟩
      have eA2 : ((A : Int) + (((numF (bs.drop A)).2.1 : Nat) : Int)) = (A2 : Int) := by rw [hA2]; omega
      rw [eA2]
      rw [← hA2] at hK
      have hdr : (bs.drop A).drop (numF (bs.drop A)).2.1 = bs.drop A2 := by rw [List.drop_drop, hA2]
      have HDR := Lib.hid hdr
      clear ha1 hA2 hZ eA2 hdr
      by_cases g1 : 4611686018427387903 < low ∨ 4611686018427387903 - low < a1
      case pos =>
        have hO : oneF low (bs.drop A) = (5, (0, 0), []) := by rw [oneF, if_pos e1, if_pos (by rw [← HA1.out]; exact g1)]
        rw [hO] at hrow
        simp only at hrow
        rw [if_neg (by decide), Prod.mk.injEq, Prod.mk.injEq] at hrow
        obtain ⟨rfl, _, _⟩ := hrow
        rcases (by omega : 4611686018427387903 < low ∨ (low ≤ 4611686018427387903 ∧ 4611686018427387903 - low < a1)) with h | ⟨h, h'⟩
        · go_wp2_with fail
          exact bodyPost_ret (v := .tuple #[.slice none 0 0, .int .i64 (A : Int), .int .i64 5]) (by simp [results, Try.results57, go_sem]) rfl (by first | exact ⟨.slice none 0 0, _, rfl, bel, fun _ => rfl, fun h => by simp at h⟩ | exact ⟨⟨_, rfl⟩, bel⟩)
        · go_wp2_with fail
          exact bodyPost_ret (v := .tuple #[.slice none 0 0, .int .i64 (A : Int), .int .i64 5]) (by simp [results, Try.results57, go_sem]) rfl (by first | exact ⟨.slice none 0 0, _, rfl, bel, fun _ => rfl, fun h => by simp at h⟩ | exact ⟨⟨_, rfl⟩, bel⟩)
      have f1 : low ≤ 4611686018427387903 := by omega
      have f2 : a1 ≤ 4611686018427387903 - low := by omega
      have f3 : ¬ 4611686018427387903 < low := by omega
      have f4 : ¬ 4611686018427387903 - low < a1 := by omega
      obtain ⟨hT2, hK2⟩ := numThere bs A2 HBY.out (by rw [← HLN.out]; exact hK) (by rw [← HLN.out]; exact hlen)
      have HT2 := hT2 wr g o cap B4
      rw [← HLN.out] at HT2 hK2
      have hZ2 := numF_zero (bs.drop A2) (byte_drop HBY.out _)
      go_wp2_with fail
      refine HT2.mono ?_; rintro e' w' ⟨rfl, rfl⟩
      clear HT2 hT2
      by_cases e2 : (numF (bs.drop A2)).2.2 = 0
      case neg =>
        have hO : oneF low (bs.drop A) = ((numF (bs.drop A2)).2.2, (0, 0), []) := by rw [oneF, if_pos e1, if_neg (by rw [← HA1.out]; exact g1), HDR.out, if_neg e2]
        rw [hO] at hrow
        simp only at hrow
        rw [if_neg e2, Prod.mk.injEq, Prod.mk.injEq] at hrow
        obtain ⟨hE', _, _⟩ := hrow
        have hd : (E != 0) = true := by rw [bne_iff_ne, ← hE']; exact e2
        have hne : E ≠ 0 := by rw [← hE']; exact e2
        rw [hE']
        clear hO hZ2
        generalize (numF (bs.drop A2)).1 = nn at *
        generalize (numF (bs.drop A2)).2.1 = kk at *
        go_wp2_with fail
        exact bodyPost_ret (v := .tuple #[.slice none 0 0, .int .i64 (A2 : Int), .int .i64 E]) (by simp [results, Try.results57, go_sem]) rfl (by first | exact ⟨.slice none 0 0, _, rfl, bel, fun _ => rfl, fun h => absurd h hne⟩ | exact ⟨⟨_, rfl⟩, bel⟩)
      rw [e2]
      have hb2 := (hZ2 e2).1
      obtain ⟨a2, ha2⟩ : ∃ a, a = (numF (bs.drop A2)).1 := ⟨_, rfl⟩
      rw [← ha2] at hb2 ⊢
      have HA2 := Lib.hid ha2
      obtain ⟨A3, hA3⟩ : ∃ a, a = A2 + (numF (bs.drop A2)).2.1 := ⟨_, rfl⟩
      have eA3 : ((A2 : Int) + (((numF (bs.drop A2)).2.1 : Nat) : Int)) = (A3 : Int) := by rw [hA3]; omega
      rw [eA3]
      rw [← hA3] at hK2
      have hdr2 : (bs.drop A2).drop (numF (bs.drop A2)).2.1 = bs.drop A3 := by rw [List.drop_drop, hA3]
      have HDR2 := Lib.hid hdr2
      clear ha2 hA3 hZ2 eA3 hdr2
      by_cases g2 : 4611686018427387903 - (low + a1) < a2
      case pos =>
        have hO : oneF low (bs.drop A) = (5, (0, 0), []) := by rw [oneF, if_pos e1, if_neg (by rw [← HA1.out]; exact g1), HDR.out, if_pos e2, ← HA1.out, ← HA2.out, if_pos g2]
        rw [hO] at hrow
        simp only at hrow
        rw [if_neg (by decide), Prod.mk.injEq, Prod.mk.injEq] at hrow
        obtain ⟨rfl, _, _⟩ := hrow
        go_wp2_with fail
        exact bodyPost_ret (v := .tuple #[.slice none 0 0, .int .i64 (A2 : Int), .int .i64 5]) (by simp [results, Try.results57, go_sem]) rfl (by first | exact ⟨.slice none 0 0, _, rfl, bel, fun _ => rfl, fun h => by simp at h⟩ | exact ⟨⟨_, rfl⟩, bel⟩)
      have hO : oneF low (bs.drop A) = (0, (low + a1, low + a1 + a2), bs.drop A3) := by rw [oneF, if_pos e1, if_neg (by rw [← HA1.out]; exact g1), HDR.out, if_pos e2, ← HA1.out, ← HA2.out, if_neg g2, HDR2.out]
      rw [hO] at hrow
      simp only [if_true] at hrow
      have f5 : a2 ≤ 4611686018427387903 - (low + a1) := by omega
      have HROW := Lib.hid hrow
      clear hO hrow
      have hkb : (k : Int) ≤ 32 := by omega
      have hkn : k ≤ 32 := by omega
      go_wp2_with (at_builtin; refine wpList_append_own _ rfl (.tmp 86) (.tmp 92) 50 rfl w.heap.size 84 i (.agg #[.int .u64 0, .int .u64 0]) 2 16 Try.underlying50 hi hzz hs hbb rfl (by decide) _ k _ rfl (OWN.out.alloc _) ⟨wr.heap.size, 0, none⟩ 1 1 [.int .u64 (low + a1), .int .u64 (low + a1 + a2)] rfl rfl (news2 _ _ _ _) (two2 _ _) (by simp [maxLen]; omega) (by omega) (by simp; omega) ?_; intro v6 w6 own6 hgrow6 hnil6)
      have b56 : Below w.heap.size wr w6 := below_grownR ((Below.refl _ _).alloc sb _) hgrow6 (by simp; omega) (fun k hk => (OWN.out.lt k hk).1)
      have b06 := bel.trans b56
      go_roundw
      case rel =>
        have hrow := HROW.out
        obtain ⟨er, lr, rr, hR⟩ : ∃ e l r, rowF (low + a1 + a2 + 2) m (bs.drop A3) = (e, l, r) := ⟨_, _, _, rfl⟩
        have hnk : n - (k + 1) = m := by omega
        refine ⟨k + 1, A3, low + a1 + a2 + 2, ls ++ [(low + a1, low + a1 + a2)], lr, rr, by congr 1, by congr 1, rfl, by omega, hK2, by rw [List.length_append, HLK.out]; rfl, ?_, ?_, by omega, ?_, b06⟩
        · rw [hnk, hR]
          rw [hR] at hrow
          simp only at hrow
          by_cases her : er = 0
          · subst her
            rw [if_pos rfl, Prod.mk.injEq] at hrow
            rw [← hrow.1]
          · rw [if_neg her, Prod.mk.injEq] at hrow
            rw [← hrow.1]
        · intro h0
          rw [hR] at hrow
          simp only at hrow
          by_cases her : er = 0
          · subst her
            rw [if_pos rfl, Prod.mk.injEq, Prod.mk.injEq] at hrow
            obtain ⟨q1, q2⟩ := HE.out h0
            rw [List.append_assoc, ← q1, ← q2, ← hrow.2.1, ← hrow.2.2]
            exact ⟨rfl, rfl⟩
          · rw [if_neg her, Prod.mk.injEq] at hrow
            exact absurd (hrow.1.trans h0) her
        · rw [flatS_append]
          exact own6
      case measure => simp only [intOf]; omega
    · have hkn : k = n := by omega
      subst hkn
      have hd : decide ((k : Int) < (k : Int)) = false := by simp
      rw [Nat.sub_self, rowF, Prod.mk.injEq, Prod.mk.injEq] at hrow
      obtain ⟨rfl, rfl, hrest⟩ := hrow
      obtain ⟨rfl, rfl⟩ := HE.out rfl
      go_wp2_with fail
      exact bodyPost_ret (v := .tuple #[u10, .int .i64 (A : Int), .int .i64 0]) (by simp [results, Try.results57, go_sem]) rfl (by exact ⟨_, _, rfl, bel, A, rfl, by first | exact hA | (rw [← HLN.out]; exact hA), hrest, by rw [HLK.out]; exact OWN.out⟩)

end Go.Proofs.Ytofggpmllfhgaaa
