/- Several texts one behind the other: GetRow, HeadRef, AckRef, HarmR, AckEnc, LawAck. -/
import Derived.Test.YtikkmdbaekdolaaJgB
import Derived.Test.YtikkmdbaekdolaaHead
import Derived.Test.YtikkmdbaekdolaaJgC
import Derived.BigQuiet
import Derived.Test.YtikkmdbaekdolaaBits
import Derived.BigRegion
/- the reference's getRow. -/
namespace Go.Proofs.Ytikkmdbaekdolaa
open Go.RowKit Go.Lib
set_option linter.unusedVariables false
set_option maxRecDepth 100000

set_option maxHeartbeats 8000000 in
set_option maxRecDepth 100000 in
theorem rGetRow (g o cap : Nat) (bs : List Int) (hb : ∀ x ∈ bs, 0 ≤ x ∧ x ≤ 255) (hlen : bs.length ≤ 140737488351232) (at' : Nat) (hat : at' ≤ bs.length) (hcap : bs.length ≤ cap) (least : Int) (hle : 0 ≤ least ∧ least ≤ 1) (E : Int) (l : List (Int × Int)) (rest : List Int) (hG : getRowF least (bs.drop at') = (E, l, rest)) (w : World) (hB : BytesAt w g o bs) :
    Calls Try.prog 126 #[.slice (some ⟨g, o, none⟩) bs.length cap, .int .i64 (at' : Int), .int .i64 least] w fun e w' => ∃ v at2, e = .returned (.tuple #[v, .int .i64 at2, .int .i64 E]) ∧ Below w.heap.size w w' ∧ (E ≠ 0 → v = .slice none 0 0) ∧ (E = 0 → ∃ A : Nat, at2 = (A : Int) ∧ A ≤ bs.length ∧ bs.drop A = rest ∧ w'.ownsRow w.heap.size 80 2 v l.length (flatS l)) := by
  obtain ⟨i, hi, hzz, hs, hbb⟩ := info_parts (P := Try.prog) (e := 80) (z := .agg #[.int .u64 0, .int .u64 0]) (size := 2) (bytes := 16) (by kernel_rfl)
  have hgw := hB.1
  obtain ⟨len, hln⟩ : ∃ n, n = bs.length := ⟨_, rfl⟩
  have HLN := Lib.hid hln
  rw [← hln] at hat hcap hlen ⊢
  have HBY := Lib.hid hb
  clear hln hb
  have hA0 : (0 : Int) ≤ (at' : Int) := by omega
  have hA1 : (at' : Int) ≤ (len : Int) := by omega
  have hlI : (len : Int) ≤ 140737488351232 := by omega
  by_cases hend : len ≤ at'
  · have hnil : bs.drop at' = [] := List.drop_eq_nil_of_le (by rw [← HLN.out]; exact hend)
    rw [hnil, getRowF, Prod.mk.injEq, Prod.mk.injEq] at hG
    obtain ⟨rfl, rfl, rfl⟩ := hG
    have he : (len : Int) ≤ (at' : Int) := by omega
    go_enter Try.func126, Try.ntmps126
    go_wp2_with fail
    exact bodyPost_ret (v := .tuple #[.slice none 0 0, .int .i64 (at' : Int), .int .i64 2]) (by simp [results, Try.results126, go_sem]) rfl (by first | exact ⟨.slice none 0 0, _, rfl, Below.refl _ _, fun _ => rfl, fun h => by simp at h⟩ | exact ⟨⟨_, rfl⟩, Below.refl _ _⟩)
  obtain ⟨n, zs, hd⟩ : ∃ n zs, bs.drop at' = n :: zs := by
    rcases h : bs.drop at' with _ | ⟨n, zs⟩
    · have := congrArg List.length h
      rw [List.length_drop, ← HLN.out] at this
      simp at this
      omega
    · exact ⟨n, zs, rfl⟩
  have hn : 0 ≤ n ∧ n ≤ 255 := HBY.out n (List.mem_of_mem_drop (by rw [hd]; simp))
  have hd1 : bs.drop (at' + 1) = zs := by rw [← List.drop_drop, hd]; rfl
  have cn : w.cell? ⟨g, o + at', none⟩ = some (.int .u8 n) := by
    have h := (BytesAt.drop hB at').2 0 (by rw [hd]; simp)
    rw [hd] at h
    simpa using h
  have hlt0 : (at' : Int) < (len : Int) := by omega
  have hge : ¬ (len : Int) ≤ (at' : Int) := by omega
  rw [hd, getRowF] at hG
  have HB := Lib.hid hB
  have HD1 := Lib.hid hd1
  clear hd hd1 hB
  by_cases hx : n < least ∨ 32 < n
  · rw [if_pos hx, Prod.mk.injEq, Prod.mk.injEq] at hG
    obtain ⟨rfl, rfl, rfl⟩ := hG
    rcases (by omega : n < least ∨ (least ≤ n ∧ 32 < n)) with h | ⟨h, h'⟩
    · go_enter Try.func126, Try.ntmps126
      go_wp2_with fail
      exact bodyPost_ret (v := .tuple #[.slice none 0 0, .int .i64 ((at' : Int) + 1), .int .i64 5]) (by simp [results, Try.results126, go_sem]) rfl (by first | exact ⟨.slice none 0 0, _, rfl, Below.refl _ _, fun _ => rfl, fun h => by simp at h⟩ | exact ⟨⟨_, rfl⟩, Below.refl _ _⟩)
    · go_enter Try.func126, Try.ntmps126
      go_wp2_with fail
      exact bodyPost_ret (v := .tuple #[.slice none 0 0, .int .i64 ((at' : Int) + 1), .int .i64 5]) (by simp [results, Try.results126, go_sem]) rfl (by first | exact ⟨.slice none 0 0, _, rfl, Below.refl _ _, fun _ => rfl, fun h => by simp at h⟩ | exact ⟨⟨_, rfl⟩, Below.refl _ _⟩)
  rw [if_neg hx] at hG
  obtain ⟨n, rfl⟩ : ∃ m : Nat, n = (m : Int) := ⟨n.toNat, by omega⟩
  rw [Int.toNat_natCast] at hG
  have h1 : least ≤ (n : Int) := by omega
  have h2 : (n : Int) ≤ 32 := by omega
  have HG := Lib.hid hG
  clear hx hG
  go_enter Try.func126, Try.ntmps126
  go_wp2_with fail
  go_loopw [1, 10, 11, 12] (fun atv v lowv i wr => ∃ (k A : Nat) (low : Int) (ls l' : List (Int × Int)) (rest' : List Int), i = .int .i64 (k : Int) ∧ lowv = .int .u64 low ∧ atv = .int .i64 (A : Int) ∧ k ≤ n ∧ A ≤ len ∧ ls.length = k ∧ rowF low (n - k) (bs.drop A) = (E, l', rest') ∧ (E = 0 → ls ++ l' = l ∧ rest' = rest) ∧ (0 ≤ low ∧ low ≤ 4611686018427387905) ∧ wr.ownsRow w.heap.size 80 2 v k (flatS ls) ∧ Below w.heap.size w wr) (fun _ _ _ i _ => (n - intOf i).toNat)
  case atStart =>
    exact ⟨0, at' + 1, 0, [], l, rest, rfl, rfl, rfl, by omega, by omega, rfl, by rw [HD1.out]; exact HG.out, fun _ => ⟨rfl, rfl⟩, by omega, World.ownsRow_nil _ _ _ _, Below.refl _ _⟩
  case round =>
    obtain ⟨k, A, low, ls, l', rest', rfl, rfl, rfl, hk, hA, hlk, hrow, hE, hlow, own, bel⟩ := hrel
    have hk0 : (0 : Int) ≤ (k : Int) := by omega
    have HE := Lib.hid hE
    have HLK := Lib.hid hlk
    have OWN := Lib.hid own
    have sb := bel.size
    clear hE hlk own cn
    by_cases hlt : k < n
    · have hlt' : (k : Int) < (n : Int) := by omega
      obtain ⟨m, hm⟩ : ∃ m, n - k = m + 1 := ⟨n - k - 1, by omega⟩
      rw [hm, rowF_succ] at hrow
      have B4 : BytesAt wr g o bs := HB.out.below bel
      obtain ⟨hT, hK⟩ := numThere bs A HBY.out (by rw [← HLN.out]; exact hA) (by rw [← HLN.out]; exact hlen)
      have HT := hT wr g o cap B4
      rw [← HLN.out] at HT hK
      have hZ := numF_zero (bs.drop A) (byte_drop HBY.out _)
      go_wp2_with fail
      refine HT.mono ?_; rintro e' w' ⟨rfl, rfl⟩
      clear HT hT
      by_cases e1 : (numF (bs.drop A)).2.2 = 0
      case neg =>
        have hO : oneF low (bs.drop A) = ((numF (bs.drop A)).2.2, (0, 0), []) := by rw [oneF, if_neg e1]
        rw [hO] at hrow
        simp only at hrow
        rw [if_neg e1, Prod.mk.injEq, Prod.mk.injEq] at hrow
        obtain ⟨hE', _, _⟩ := hrow
        have hd : (E != 0) = true := by rw [bne_iff_ne, ← hE']; exact e1
        have hne : E ≠ 0 := by rw [← hE']; exact e1
        rw [hE']
        clear hO hZ
        generalize (numF (bs.drop A)).1 = nn at *
        generalize (numF (bs.drop A)).2.1 = kk at *
        go_wp2_with fail
        exact bodyPost_ret (v := .tuple #[.slice none 0 0, .int .i64 (A : Int), .int .i64 E]) (by simp [results, Try.results126, go_sem]) rfl (by first | exact ⟨.slice none 0 0, _, rfl, bel, fun _ => rfl, fun h => absurd h hne⟩ | exact ⟨⟨_, rfl⟩, bel⟩)
      rw [e1]
      have hb1 := (hZ e1).1
      obtain ⟨a1, ha1⟩ : ∃ a, a = (numF (bs.drop A)).1 := ⟨_, rfl⟩
      rw [← ha1] at hb1 ⊢
      have HA1 := Lib.hid ha1
      obtain ⟨A2, hA2⟩ : ∃ a, a = A + (numF (bs.drop A)).2.1 := ⟨_, rfl⟩
      have eA2 : ((A : Int) + (((numF (bs.drop A)).2.1 : Nat) : Int)) = (A2 : Int) := by rw [hA2]; omega
      rw [eA2]
      rw [← hA2] at hK
      have hdr : (bs.drop A).drop (numF (bs.drop A)).2.1 = bs.drop A2 := by rw [List.drop_drop, hA2]
      have HDR := Lib.hid hdr
      clear ha1 hA2 hZ eA2 hdr
      by_cases g1 : 4611686018427387903 < low ∨ 4611686018427387903 - low < a1
      case pos =>
        have hO : oneF low (bs.drop A) = (5, (0, 0), []) := by rw [oneF, if_pos e1, if_pos (by rw [← HA1.out]; exact g1)]
        rw [hO] at hrow
        simp only at hrow
        rw [if_neg (by decide), Prod.mk.injEq, Prod.mk.injEq] at hrow
        obtain ⟨rfl, _, _⟩ := hrow
        rcases (by omega : 4611686018427387903 < low ∨ (low ≤ 4611686018427387903 ∧ 4611686018427387903 - low < a1)) with h | ⟨h, h'⟩
        · go_wp2_with fail
          exact bodyPost_ret (v := .tuple #[.slice none 0 0, .int .i64 (A : Int), .int .i64 5]) (by simp [results, Try.results126, go_sem]) rfl (by first | exact ⟨.slice none 0 0, _, rfl, bel, fun _ => rfl, fun h => by simp at h⟩ | exact ⟨⟨_, rfl⟩, bel⟩)
        · go_wp2_with fail
          exact bodyPost_ret (v := .tuple #[.slice none 0 0, .int .i64 (A : Int), .int .i64 5]) (by simp [results, Try.results126, go_sem]) rfl (by first | exact ⟨.slice none 0 0, _, rfl, bel, fun _ => rfl, fun h => by simp at h⟩ | exact ⟨⟨_, rfl⟩, bel⟩)
      have f1 : low ≤ 4611686018427387903 := by omega
      have f2 : a1 ≤ 4611686018427387903 - low := by omega
      have f3 : ¬ 4611686018427387903 < low := by omega
      have f4 : ¬ 4611686018427387903 - low < a1 := by omega
      obtain ⟨hT2, hK2⟩ := numThere bs A2 HBY.out (by rw [← HLN.out]; exact hK) (by rw [← HLN.out]; exact hlen)
      have HT2 := hT2 wr g o cap B4
      rw [← HLN.out] at HT2 hK2
      have hZ2 := numF_zero (bs.drop A2) (byte_drop HBY.out _)
      go_wp2_with fail
      refine HT2.mono ?_; rintro e' w' ⟨rfl, rfl⟩
      clear HT2 hT2
      by_cases e2 : (numF (bs.drop A2)).2.2 = 0
      case neg =>
        have hO : oneF low (bs.drop A) = ((numF (bs.drop A2)).2.2, (0, 0), []) := by rw [oneF, if_pos e1, if_neg (by rw [← HA1.out]; exact g1), HDR.out, if_neg e2]
        rw [hO] at hrow
        simp only at hrow
        rw [if_neg e2, Prod.mk.injEq, Prod.mk.injEq] at hrow
        obtain ⟨hE', _, _⟩ := hrow
        have hd : (E != 0) = true := by rw [bne_iff_ne, ← hE']; exact e2
        have hne : E ≠ 0 := by rw [← hE']; exact e2
        rw [hE']
        clear hO hZ2
        generalize (numF (bs.drop A2)).1 = nn at *
        generalize (numF (bs.drop A2)).2.1 = kk at *
        go_wp2_with fail
        exact bodyPost_ret (v := .tuple #[.slice none 0 0, .int .i64 (A2 : Int), .int .i64 E]) (by simp [results, Try.results126, go_sem]) rfl (by first | exact ⟨.slice none 0 0, _, rfl, bel, fun _ => rfl, fun h => absurd h hne⟩ | exact ⟨⟨_, rfl⟩, bel⟩)
      rw [e2]
      have hb2 := (hZ2 e2).1
      obtain ⟨a2, ha2⟩ : ∃ a, a = (numF (bs.drop A2)).1 := ⟨_, rfl⟩
      rw [← ha2] at hb2 ⊢
      have HA2 := Lib.hid ha2
      obtain ⟨A3, hA3⟩ : ∃ a, a = A2 + (numF (bs.drop A2)).2.1 := ⟨_, rfl⟩
      have eA3 : ((A2 : Int) + (((numF (bs.drop A2)).2.1 : Nat) : Int)) = (A3 : Int) := by rw [hA3]; omega
      rw [eA3]
      rw [← hA3] at hK2
      have hdr2 : (bs.drop A2).drop (numF (bs.drop A2)).2.1 = bs.drop A3 := by rw [List.drop_drop, hA3]
      have HDR2 := Lib.hid hdr2
      clear ha2 hA3 hZ2 eA3 hdr2
      by_cases g2 : 4611686018427387903 - (low + a1) < a2
      case pos =>
        have hO : oneF low (bs.drop A) = (5, (0, 0), []) := by rw [oneF, if_pos e1, if_neg (by rw [← HA1.out]; exact g1), HDR.out, if_pos e2, ← HA1.out, ← HA2.out, if_pos g2]
        rw [hO] at hrow
        simp only at hrow
        rw [if_neg (by decide), Prod.mk.injEq, Prod.mk.injEq] at hrow
        obtain ⟨rfl, _, _⟩ := hrow
        go_wp2_with fail
        exact bodyPost_ret (v := .tuple #[.slice none 0 0, .int .i64 (A2 : Int), .int .i64 5]) (by simp [results, Try.results126, go_sem]) rfl (by first | exact ⟨.slice none 0 0, _, rfl, bel, fun _ => rfl, fun h => by simp at h⟩ | exact ⟨⟨_, rfl⟩, bel⟩)
      have hO : oneF low (bs.drop A) = (0, (low + a1, low + a1 + a2), bs.drop A3) := by rw [oneF, if_pos e1, if_neg (by rw [← HA1.out]; exact g1), HDR.out, if_pos e2, ← HA1.out, ← HA2.out, if_neg g2, HDR2.out]
      rw [hO] at hrow
      simp only [if_true] at hrow
      have f5 : a2 ≤ 4611686018427387903 - (low + a1) := by omega
      have HROW := Lib.hid hrow
      clear hO hrow
      have hkb : (k : Int) ≤ 32 := by omega
      have hkn : k ≤ 32 := by omega
      go_wp2_with (at_builtin; refine wpList_append_own _ rfl (.tmp 86) (.tmp 92) 72 rfl w.heap.size 80 i (.agg #[.int .u64 0, .int .u64 0]) 2 16 Try.underlying72 hi hzz hs hbb rfl (by decide) _ k _ rfl (OWN.out.alloc _) ⟨wr.heap.size, 0, none⟩ 1 1 [.int .u64 (low + a1), .int .u64 (low + a1 + a2)] rfl rfl (news2 _ _ _ _) (two2 _ _) (by simp [maxLen]; omega) (by omega) (by simp; omega) ?_; intro v6 w6 own6 hgrow6 hnil6)
      have b56 : Below w.heap.size wr w6 := below_grownR ((Below.refl _ _).alloc sb _) hgrow6 (by simp; omega) (fun k hk => (OWN.out.lt k hk).1)
      have b06 := bel.trans b56
      go_roundw
      case rel =>
        have hrow := HROW.out
        obtain ⟨er, lr, rr, hR⟩ : ∃ e l r, rowF (low + a1 + a2 + 2) m (bs.drop A3) = (e, l, r) := ⟨_, _, _, rfl⟩
        have hnk : n - (k + 1) = m := by omega
        refine ⟨k + 1, A3, low + a1 + a2 + 2, ls ++ [(low + a1, low + a1 + a2)], lr, rr, by congr 1, by congr 1, rfl, by omega, hK2, by rw [List.length_append, HLK.out]; rfl, ?_, ?_, by omega, ?_, b06⟩
        · rw [hnk, hR]
          rw [hR] at hrow
          simp only at hrow
          by_cases her : er = 0
          · subst her
            rw [if_pos rfl, Prod.mk.injEq] at hrow
            rw [← hrow.1]
          · rw [if_neg her, Prod.mk.injEq] at hrow
            rw [← hrow.1]
        · intro h0
          rw [hR] at hrow
          simp only at hrow
          by_cases her : er = 0
          · subst her
            rw [if_pos rfl, Prod.mk.injEq, Prod.mk.injEq] at hrow
            obtain ⟨q1, q2⟩ := HE.out h0
            rw [List.append_assoc, ← q1, ← q2, ← hrow.2.1, ← hrow.2.2]
            exact ⟨rfl, rfl⟩
          · rw [if_neg her, Prod.mk.injEq] at hrow
            exact absurd (hrow.1.trans h0) her
        · rw [flatS_append]
          exact own6
      case measure => simp only [intOf]; omega
    · have hkn : k = n := by omega
      subst hkn
      have hd : decide ((k : Int) < (k : Int)) = false := by simp
      rw [Nat.sub_self, rowF, Prod.mk.injEq, Prod.mk.injEq] at hrow
      obtain ⟨rfl, rfl, hrest⟩ := hrow
      obtain ⟨rfl, rfl⟩ := HE.out rfl
      go_wp2_with fail
      exact bodyPost_ret (v := .tuple #[u10, .int .i64 (A : Int), .int .i64 0]) (by simp [results, Try.results126, go_sem]) rfl (by exact ⟨_, _, rfl, bel, A, rfl, by first | exact hA | (rw [← HLN.out]; exact hA), hrest, by rw [HLK.out]; exact OWN.out⟩)

end Go.Proofs.Ytikkmdbaekdolaa

/- the reference's GetData, for all bytes. -/
namespace Go.Proofs.Ytikkmdbaekdolaa
open Go.RowKit Go.Lib
set_option linter.unusedVariables false
set_option maxRecDepth 100000

theorem BytesAt.belowA' {w w' : World} {B b off : Nat} {xs : List Int} (h : BytesAt w b off xs) (hb : Below B w w') (hB : b < B) : BytesAt w' b off xs :=
  ⟨Nat.lt_of_lt_of_le h.1 hb.size, fun i hi => by rw [hb.cell hB]; exact h.2 i hi⟩

set_option maxHeartbeats 8000000 in
theorem rGet (bv : Value) (bs : List Int) (hb : ∀ x ∈ bs, 0 ≤ x ∧ x ≤ 255) (hlen : bs.length ≤ 140737488351232) (w : World) (hB : BodyAt w bv bs) (E : Int) (d : Dat) (hG : getF bs = (E, d)) :
    Calls Try.prog 104 #[bv] w fun e w' => ∃ v, e = .returned (.tuple #[dataV d v, .int .i64 E]) ∧ Below w.heap.size w w' ∧ BodyAt w' v d.body := by
  obtain ⟨i, hi, hzz, hs, hbb⟩ := info_parts (P := Try.prog) (e := 5) (z := .int .u8 0) (size := 1) (bytes := 1) (by kernel_rfl)
  obtain ⟨w2, hw2⟩ : ∃ w2, w2 = (w.alloc (.cells #[.int .u64 0, .int .u64 0, .int .u64 0, .int .u64 0, .int .i64 0, .slice none 0 0] 82 (0, 0))).alloc (.cells #[.int .u64 0, .int .u64 0, .int .u64 0, .int .u64 0, .int .i64 0, .slice none 0 0] 82 (0, 0)) := ⟨_, rfl⟩
  have s2 : w2.heap.size = w.heap.size + 2 := by rw [hw2]; simp
  have H2 : DatAt w2 w.heap.size (.int .u64 0) (.int .u64 0) (.int .u64 0) (.int .u64 0) (.int .i64 0) (.slice none 0 0) := by
    rw [hw2]
    exact DatAt.belowB (show DatAt (w.alloc _) _ _ _ _ _ _ _ from heap_alloc_new w _) (by simp) ((Below.refl (w.heap.size + 1) _).alloc (by simp) _)
  have D2 : DatAt w2 (w.heap.size + 1) (.int .u64 0) (.int .u64 0) (.int .u64 0) (.int .u64 0) (.int .i64 0) (.slice none 0 0) := by
    rw [hw2]
    have := heap_alloc_new (w.alloc (.cells #[.int .u64 0, .int .u64 0, .int .u64 0, .int .u64 0, .int .i64 0, .slice none 0 0] 82 (0, 0))) (.cells #[.int .u64 0, .int .u64 0, .int .u64 0, .int .u64 0, .int .i64 0, .slice none 0 0] 82 (0, 0))
    rwa [show (w.alloc (.cells #[.int .u64 0, .int .u64 0, .int .u64 0, .int .u64 0, .int .i64 0, .slice none 0 0] 82 (0, 0))).heap.size = w.heap.size + 1 by simp] at this
  have b02 : Below w.heap.size w w2 := by rw [hw2]; exact ((Below.refl _ _).alloc (Nat.le_refl _) _).alloc (by simp) _
  obtain ⟨b0, hb0⟩ : ∃ n, n = w.heap.size := ⟨_, rfl⟩
  obtain ⟨D, hD⟩ : ∃ n, n = w.heap.size + 1 := ⟨_, rfl⟩
  have hbD : b0 ≠ D := by omega
  have hDb : D ≠ b0 := by omega
  have hwD : w.heap.size ≠ D := by omega
  have hDw : D ≠ w.heap.size := by omega
  rw [← hb0] at H2
  rw [← hD] at D2
  have HD := Lib.hid hD
  have hDgt : w.heap.size < D := by omega
  clear hD
  rcases hB with ⟨x, c0, rfl, h0, rfl⟩ | ⟨g, o, cap, rfl, h1, h2, h3, B0⟩
  · simp only [getF, Prod.mk.injEq] at hG
    obtain ⟨rfl, rfl⟩ := hG
    go_enter Try.func104, Try.ntmps104
    go_wp2_with fail
    refine bodyPost_ret (v := .tuple #[.agg #[.int .u64 0, .int .u64 0, .int .u64 0, .int .u64 0, .int .i64 0, .slice none 0 0], .int .i64 2]) (by simp [results, Try.results104, go_sem]) rfl ⟨.slice none 0 0, rfl, by repeat (first | with_reducible exact Below.refl _ _ | with_reducible refine Below.alloc ?_ (by first | (simp; done) | (simp; omega)) _), .inl ⟨none, 0, rfl, fun _ => rfl, rfl⟩⟩
  have hgl := B0.1
  have hgD : g ≠ D := by omega
  have hgb : g ≠ b0 := by omega
  have B2 : BytesAt w2 g o bs := B0.below b02
  rcases bs with _ | ⟨k, bs⟩
  · simp at h1
  have ck : w2.cell? ⟨g, o, none⟩ = some (.int .u8 k) := by simpa using B2.at 0 k rfl
  by_cases hk1 : k = 1
  case neg =>
    rw [getF, if_neg hk1, Prod.mk.injEq] at hG
    obtain ⟨rfl, rfl⟩ := hG
    have hd : (k != 1) = true := by rw [bne_iff_ne]; exact hk1
    rw [hw2] at ck
    go_enter Try.func104, Try.ntmps104
    go_wp2_with fail
    refine bodyPost_ret (v := .tuple #[.agg #[.int .u64 0, .int .u64 0, .int .u64 0, .int .u64 0, .int .i64 0, .slice none 0 0], .int .i64 4]) (by simp [results, Try.results104, go_sem]) rfl ⟨.slice none 0 0, rfl, by repeat (first | with_reducible exact Below.refl _ _ | with_reducible refine Below.alloc ?_ (by first | (simp; done) | (simp; omega)) _), .inl ⟨none, 0, rfl, fun _ => rfl, rfl⟩⟩
  subst hk1
  rw [getF, if_pos rfl] at hG
  rcases bs with _ | ⟨c, zs⟩
  · rw [get0, Prod.mk.injEq] at hG
    obtain ⟨rfl, rfl⟩ := hG
    rw [hw2] at ck
    go_enter Try.func104, Try.ntmps104
    go_wp2_with fail
    refine bodyPost_ret (v := .tuple #[.agg #[.int .u64 0, .int .u64 0, .int .u64 0, .int .u64 0, .int .i64 0, .slice none 0 0], .int .i64 2]) (by simp [results, Try.results104, go_sem]) rfl ⟨.slice none 0 0, rfl, by repeat (first | with_reducible exact Below.refl _ _ | with_reducible refine Below.alloc ?_ (by first | (simp; done) | (simp; omega)) _), .inl ⟨none, 0, rfl, fun _ => rfl, rfl⟩⟩
  have hc := hb c (by simp)
  have ck2 : w2.cell? ⟨g, o + 1, none⟩ = some (.int .u8 c) := B2.at 1 c rfl
  rw [get0] at hG
  obtain ⟨len, hln⟩ : ∃ n, n = (1 :: c :: zs).length := ⟨_, rfl⟩
  have hl2 : 2 ≤ len := by rw [hln]; simp
  rw [← hln] at hlen h2
  have hlc : len ≠ 1 := by omega
  have hl0 : len ≠ 0 := by omega
  rw [← hln]
  obtain ⟨bl, hbl⟩ : ∃ l, l = 1 :: c :: zs := ⟨_, rfl⟩
  have hzs : zs = bl.drop 2 := by rw [hbl]; rfl
  rw [← hbl] at hb B2 hln
  have HLN := Lib.hid hln
  rw [hzs] at hG
  have HBL := Lib.hid hbl
  have hlb : bl.length ≤ 140737488351232 := by omega
  have HBY := Lib.hid hb
  clear hzs hbl h1 hln hb
  rw [hw2] at ck ck2
  by_cases hc3 : 1 ≤ c ∧ c ≤ 3
  case neg =>
    rw [if_neg hc3, Prod.mk.injEq] at hG
    obtain ⟨rfl, rfl⟩ := hG
    rcases (by omega : c < 1 ∨ (1 ≤ c ∧ 3 < c)) with h | ⟨h, h'⟩
    · go_enter Try.func104, Try.ntmps104
      go_wp2_with fail
      refine bodyPost_ret (v := .tuple #[.agg #[.int .u64 0, .int .u64 0, .int .u64 0, .int .u64 0, .int .i64 0, .slice none 0 0], .int .i64 5]) (by simp [results, Try.results104, go_sem]) rfl ⟨.slice none 0 0, rfl, by repeat (first | with_reducible exact Below.refl _ _ | with_reducible refine Below.alloc ?_ (by first | (simp; done) | (simp; omega)) _), .inl ⟨none, 0, rfl, fun _ => rfl, rfl⟩⟩
    · go_enter Try.func104, Try.ntmps104
      go_wp2_with fail
      refine bodyPost_ret (v := .tuple #[.agg #[.int .u64 0, .int .u64 0, .int .u64 0, .int .u64 0, .int .i64 0, .slice none 0 0], .int .i64 5]) (by simp [results, Try.results104, go_sem]) rfl ⟨.slice none 0 0, rfl, by repeat (first | with_reducible exact Below.refl _ _ | with_reducible refine Below.alloc ?_ (by first | (simp; done) | (simp; omega)) _), .inl ⟨none, 0, rfl, fun _ => rfl, rfl⟩⟩
  rw [if_pos hc3] at hG
  obtain ⟨c1, c3⟩ := hc3
  go_enter Try.func104, Try.ntmps104
  go_wp2_with fail
  obtain ⟨w3, hw3⟩ : ∃ w3, w3 = (w.alloc (.cells #[.int .u64 0, .int .u64 0, .int .u64 0, .int .u64 0, .int .i64 0, .slice none 0 0] 82 (0, 0))).alloc (.cells #[.int .u64 0, .int .u64 0, .int .u64 0, .int .u64 0, .int .i64 c, .slice none 0 0] 82 (0, 0)) := ⟨_, rfl⟩
  have q3 : w3.heap.size = w.heap.size + 2 := by rw [hw3]; simp
  have H3 : DatAt w3 b0 (.int .u64 0) (.int .u64 0) (.int .u64 0) (.int .u64 0) (.int .i64 0) (.slice none 0 0) := by
    rw [hw3, hb0]
    exact DatAt.belowB (show DatAt (w.alloc _) _ _ _ _ _ _ _ from heap_alloc_new w _) (by simp) ((Below.refl (w.heap.size + 1) _).alloc (by simp) _)
  have D3 : DatAt w3 D (.int .u64 0) (.int .u64 0) (.int .u64 0) (.int .u64 0) (.int .i64 c) (.slice none 0 0) := by
    rw [hw3, HD.out]
    have := heap_alloc_new (w.alloc (.cells #[.int .u64 0, .int .u64 0, .int .u64 0, .int .u64 0, .int .i64 0, .slice none 0 0] 82 (0, 0))) (.cells #[.int .u64 0, .int .u64 0, .int .u64 0, .int .u64 0, .int .i64 c, .slice none 0 0] 82 (0, 0))
    rwa [show (w.alloc (.cells #[.int .u64 0, .int .u64 0, .int .u64 0, .int .u64 0, .int .i64 0, .slice none 0 0] 82 (0, 0))).heap.size = w.heap.size + 1 by simp] at this
  have b03 : Below w.heap.size w w3 := by rw [hw3]; exact ((Below.refl _ _).alloc (Nat.le_refl _) _).alloc (by simp) _
  have B3 : BytesAt w3 g o bl := by have h := B0.below b03; rwa [← HBL.out] at h
  rw [← hw3, ← HD.out]
  clear hw3 ck ck2 hw2 s2 H2 D2 b02 B2 B0
  have hA : 2 ≤ bl.length := by have := HLN.out; omega
  obtain ⟨hT, hK⟩ := numThere bl 2 HBY.out hA hlb
  have hZ := numF_zero (bl.drop 2) (byte_drop HBY.out _)
  have HT := hT _ g o cap B3
  rw [← HLN.out] at HT
  refine HT.mono ?_; rintro e' w' ⟨rfl, rfl⟩
  clear hT HT
  rw [get1] at hG
  obtain ⟨⟨d0, d1, d2, d3, d4, d5⟩, dz⟩ := D3.cells
  have y0 := dz 0
  obtain ⟨⟨a0, a1, a2, a3, a4, a5⟩, fz⟩ := H3.cells
  have x0 := fz 0
  have x1 := fz 1
  have x2 := fz 2
  have x3 := fz 3
  have x4 := fz 4
  have x5 := fz 5
  rw [hb0] at a0 a1 a2 a3 a4 a5 x0 x1 x2 x3 x4 x5
  by_cases he : (numF (bl.drop 2)).2.2 = 0
  case neg =>
    rw [if_neg he, Prod.mk.injEq] at hG
    obtain ⟨hE, rfl⟩ := hG
    have hd : ((numF (bl.drop 2)).2.2 != 0) = true := by rw [bne_iff_ne]; exact he
    clear hZ
    generalize (numF (bl.drop 2)).2.2 = er at *
    generalize (numF (bl.drop 2)).1 = N at *
    generalize (numF (bl.drop 2)).2.1 = KK at *
    subst hE
    go_wp2_with fail
    refine bodyPost_ret (v := .tuple #[.agg #[.int .u64 0, .int .u64 0, .int .u64 0, .int .u64 0, .int .i64 0, .slice none 0 0], .int .i64 er]) (by simp [results, Try.results104, go_sem, a0, a1, a2, a3, a4, a5]) rfl ⟨.slice none 0 0, rfl, by repeat (first | with_reducible exact b03 | with_reducible refine Below.setCell ?_ (by first | (simp; done) | (simp; omega) | omega) _), .inl ⟨none, 0, rfl, fun _ => rfl, rfl⟩⟩
  rw [if_pos he] at hG
  rw [he]
  obtain ⟨np, hnp⟩ : ∃ n, n = (numF (bl.drop 2)).1 := ⟨_, rfl⟩
  have hZ1 := (hZ he).1
  obtain ⟨Ap, hAAp⟩ : ∃ n, n = 2 + (numF (bl.drop 2)).2.1 := ⟨_, rfl⟩
  have ep : (((2 : Nat) : Int) + (((numF (bl.drop 2)).2.1 : Nat) : Int)) = (Ap : Int) := by rw [hAAp]; omega
  rw [ep]
  rw [List.drop_drop, ← hAAp, ← hnp] at hG
  rw [← hAAp] at hK
  rw [← hnp] at hZ1
  rw [← hnp]
  have hAp := hK
  clear hZ he hK hnp ep hAAp
  have hp64 := hZ1
  clear hZ1
  go_wp2_with fail
  obtain ⟨w4, hw4⟩ : ∃ w4, w4 = w3.setCell ⟨D, 0, none⟩ (.int .u64 np) := ⟨_, rfl⟩
  have B4 : BytesAt w4 g o bl := by rw [hw4]; exact BytesAt.set B3 _ (Ne.symm hgD) _
  have H4 : DatAt w4 b0 (.int .u64 0) (.int .u64 0) (.int .u64 0) (.int .u64 0) (.int .i64 0) (.slice none 0 0) := by unfold DatAt; rw [hw4, kept_set _ _ _ _ hbD]; exact H3
  have D4 : DatAt w4 D (.int .u64 np) (.int .u64 0) (.int .u64 0) (.int .u64 0) (.int .i64 c) (.slice none 0 0) := by rw [hw4]; exact heap_set_self _ _ _ _ _ _ _ D3
  have b04 : Below w.heap.size w w4 := by rw [hw4]; exact Below.setCell b03 (by simp; omega) _
  have q4 : w4.heap.size = w.heap.size + 2 := by rw [hw4]; simpa using q3
  rw [← hw4]
  clear d0 d1 d2 d3 d4 d5 dz a0 a1 a2 a3 a4 a5 fz x0 x1 x2 x3 x4 x5
  clear y0
  clear hw4 B3 H3 D3 b03
  obtain ⟨hT, hK⟩ := numThere bl Ap HBY.out hAp hlb
  have hZ := numF_zero (bl.drop Ap) (byte_drop HBY.out _)
  have HT := hT _ g o cap B4
  rw [← HLN.out] at HT
  refine HT.mono ?_; rintro e' w' ⟨rfl, rfl⟩
  clear hT HT
  rw [get2] at hG
  obtain ⟨⟨d0, d1, d2, d3, d4, d5⟩, dz⟩ := D4.cells
  have y1 := dz 1
  obtain ⟨⟨a0, a1, a2, a3, a4, a5⟩, fz⟩ := H4.cells
  have x0 := fz 0
  have x1 := fz 1
  have x2 := fz 2
  have x3 := fz 3
  have x4 := fz 4
  have x5 := fz 5
  rw [hb0] at a0 a1 a2 a3 a4 a5 x0 x1 x2 x3 x4 x5
  by_cases he : (numF (bl.drop Ap)).2.2 = 0
  case neg =>
    rw [if_neg he, Prod.mk.injEq] at hG
    obtain ⟨hE, rfl⟩ := hG
    have hd : ((numF (bl.drop Ap)).2.2 != 0) = true := by rw [bne_iff_ne]; exact he
    clear hZ
    generalize (numF (bl.drop Ap)).2.2 = er at *
    generalize (numF (bl.drop Ap)).1 = N at *
    generalize (numF (bl.drop Ap)).2.1 = KK at *
    subst hE
    go_wp2_with fail
    refine bodyPost_ret (v := .tuple #[.agg #[.int .u64 0, .int .u64 0, .int .u64 0, .int .u64 0, .int .i64 0, .slice none 0 0], .int .i64 er]) (by simp [results, Try.results104, go_sem, a0, a1, a2, a3, a4, a5]) rfl ⟨.slice none 0 0, rfl, by repeat (first | with_reducible exact b04 | with_reducible refine Below.setCell ?_ (by first | (simp; done) | (simp; omega) | omega) _), .inl ⟨none, 0, rfl, fun _ => rfl, rfl⟩⟩
  rw [if_pos he] at hG
  rw [he]
  obtain ⟨nl, hnl⟩ : ∃ n, n = (numF (bl.drop Ap)).1 := ⟨_, rfl⟩
  have hZ1 := (hZ he).1
  obtain ⟨Al, hAAl⟩ : ∃ n, n = Ap + (numF (bl.drop Ap)).2.1 := ⟨_, rfl⟩
  have el : (((Ap : Nat) : Int) + (((numF (bl.drop Ap)).2.1 : Nat) : Int)) = (Al : Int) := by rw [hAAl]; omega
  rw [el]
  rw [List.drop_drop, ← hAAl, ← hnl] at hG
  rw [← hAAl] at hK
  rw [← hnl] at hZ1
  rw [← hnl]
  have hAl := hK
  clear hZ he hK hnl el hAAl
  have hl64 := hZ1
  clear hZ1
  by_cases hx : nl ≤ np
  case neg =>
    rw [if_neg hx, Prod.mk.injEq] at hG
    obtain ⟨rfl, rfl⟩ := hG
    have hd : decide (np < nl) = true := by rw [decide_eq_true_iff]; omega
    go_wp2_with fail
    refine bodyPost_ret (v := .tuple #[.agg #[.int .u64 0, .int .u64 0, .int .u64 0, .int .u64 0, .int .i64 0, .slice none 0 0], .int .i64 5]) (by simp [results, Try.results104, go_sem, a0, a1, a2, a3, a4, a5]) rfl ⟨.slice none 0 0, rfl, by repeat (first | with_reducible exact b04 | with_reducible refine Below.setCell ?_ (by first | (simp; done) | (simp; omega) | omega) _), .inl ⟨none, 0, rfl, fun _ => rfl, rfl⟩⟩
  rw [if_pos hx] at hG
  have hd : decide (np < nl) = false := by rw [decide_eq_false_iff_not]; omega
  go_wp2_with fail
  obtain ⟨w5, hw5⟩ : ∃ w5, w5 = w4.setCell ⟨D, 1, none⟩ (.int .u64 nl) := ⟨_, rfl⟩
  have B5 : BytesAt w5 g o bl := by rw [hw5]; exact BytesAt.set B4 _ (Ne.symm hgD) _
  have H5 : DatAt w5 b0 (.int .u64 0) (.int .u64 0) (.int .u64 0) (.int .u64 0) (.int .i64 0) (.slice none 0 0) := by unfold DatAt; rw [hw5, kept_set _ _ _ _ hbD]; exact H4
  have D5 : DatAt w5 D (.int .u64 np) (.int .u64 nl) (.int .u64 0) (.int .u64 0) (.int .i64 c) (.slice none 0 0) := by rw [hw5]; exact heap_set_self _ _ _ _ _ _ _ D4
  have b05 : Below w.heap.size w w5 := by rw [hw5]; exact Below.setCell b04 (by simp; omega) _
  have q5 : w5.heap.size = w.heap.size + 2 := by rw [hw5]; simpa using q4
  rw [← hw5]
  clear d0 d1 d2 d3 d4 d5 dz a0 a1 a2 a3 a4 a5 fz x0 x1 x2 x3 x4 x5
  clear y1
  clear hw5 B4 H4 D4 b04
  clear hx hd
  obtain ⟨hT, hK⟩ := numThere bl Al HBY.out hAl hlb
  have hZ := numF_zero (bl.drop Al) (byte_drop HBY.out _)
  have HT := hT _ g o cap B5
  rw [← HLN.out] at HT
  refine HT.mono ?_; rintro e' w' ⟨rfl, rfl⟩
  clear hT HT
  rw [get3] at hG
  obtain ⟨⟨d0, d1, d2, d3, d4, d5⟩, dz⟩ := D5.cells
  have y2 := dz 2
  obtain ⟨⟨a0, a1, a2, a3, a4, a5⟩, fz⟩ := H5.cells
  have x0 := fz 0
  have x1 := fz 1
  have x2 := fz 2
  have x3 := fz 3
  have x4 := fz 4
  have x5 := fz 5
  rw [hb0] at a0 a1 a2 a3 a4 a5 x0 x1 x2 x3 x4 x5
  by_cases he : (numF (bl.drop Al)).2.2 = 0
  case neg =>
    rw [if_neg he, Prod.mk.injEq] at hG
    obtain ⟨hE, rfl⟩ := hG
    have hd : ((numF (bl.drop Al)).2.2 != 0) = true := by rw [bne_iff_ne]; exact he
    clear hZ
    generalize (numF (bl.drop Al)).2.2 = er at *
    generalize (numF (bl.drop Al)).1 = N at *
    generalize (numF (bl.drop Al)).2.1 = KK at *
    subst hE
    go_wp2_with fail
    refine bodyPost_ret (v := .tuple #[.agg #[.int .u64 0, .int .u64 0, .int .u64 0, .int .u64 0, .int .i64 0, .slice none 0 0], .int .i64 er]) (by simp [results, Try.results104, go_sem, a0, a1, a2, a3, a4, a5]) rfl ⟨.slice none 0 0, rfl, by repeat (first | with_reducible exact b05 | with_reducible refine Below.setCell ?_ (by first | (simp; done) | (simp; omega) | omega) _), .inl ⟨none, 0, rfl, fun _ => rfl, rfl⟩⟩
  rw [if_pos he] at hG
  rw [he]
  obtain ⟨no, hno⟩ : ∃ n, n = (numF (bl.drop Al)).1 := ⟨_, rfl⟩
  have hZ1 := (hZ he).1
  obtain ⟨Ao, hAAo⟩ : ∃ n, n = Al + (numF (bl.drop Al)).2.1 := ⟨_, rfl⟩
  have eo : (((Al : Nat) : Int) + (((numF (bl.drop Al)).2.1 : Nat) : Int)) = (Ao : Int) := by rw [hAAo]; omega
  rw [eo]
  rw [List.drop_drop, ← hAAo, ← hno] at hG
  rw [← hAAo] at hK
  rw [← hno] at hZ1
  rw [← hno]
  have hAo := hK
  clear hZ he hK hno eo hAAo
  have ho64 := hZ1
  clear hZ1
  go_wp2_with fail
  obtain ⟨w6, hw6⟩ : ∃ w6, w6 = w5.setCell ⟨D, 2, none⟩ (.int .u64 no) := ⟨_, rfl⟩
  have B6 : BytesAt w6 g o bl := by rw [hw6]; exact BytesAt.set B5 _ (Ne.symm hgD) _
  have H6 : DatAt w6 b0 (.int .u64 0) (.int .u64 0) (.int .u64 0) (.int .u64 0) (.int .i64 0) (.slice none 0 0) := by unfold DatAt; rw [hw6, kept_set _ _ _ _ hbD]; exact H5
  have D6 : DatAt w6 D (.int .u64 np) (.int .u64 nl) (.int .u64 no) (.int .u64 0) (.int .i64 c) (.slice none 0 0) := by rw [hw6]; exact heap_set_self _ _ _ _ _ _ _ D5
  have b06 : Below w.heap.size w w6 := by rw [hw6]; exact Below.setCell b05 (by simp; omega) _
  have q6 : w6.heap.size = w.heap.size + 2 := by rw [hw6]; simpa using q5
  rw [← hw6]
  clear d0 d1 d2 d3 d4 d5 dz a0 a1 a2 a3 a4 a5 fz x0 x1 x2 x3 x4 x5
  clear y2
  clear hw6 B5 H5 D5 b05
  obtain ⟨hT, hK⟩ := wordThere bl Ao HBY.out hAo hlb
  have hZ := wordF_zero (bl.drop Ao) (byte_drop HBY.out _)
  have HT := hT _ g o cap B6
  rw [← HLN.out] at HT
  refine HT.mono ?_; rintro e' w' ⟨rfl, rfl⟩
  clear hT HT
  rw [get4] at hG
  obtain ⟨⟨d0, d1, d2, d3, d4, d5⟩, dz⟩ := D6.cells
  have y3 := dz 3
  obtain ⟨⟨a0, a1, a2, a3, a4, a5⟩, fz⟩ := H6.cells
  have x0 := fz 0
  have x1 := fz 1
  have x2 := fz 2
  have x3 := fz 3
  have x4 := fz 4
  have x5 := fz 5
  rw [hb0] at a0 a1 a2 a3 a4 a5 x0 x1 x2 x3 x4 x5
  by_cases he : (wordF (bl.drop Ao)).2.2 = 0
  case neg =>
    rw [if_neg he, Prod.mk.injEq] at hG
    obtain ⟨hE, rfl⟩ := hG
    have hd : ((wordF (bl.drop Ao)).2.2 != 0) = true := by rw [bne_iff_ne]; exact he
    clear hZ
    generalize (wordF (bl.drop Ao)).2.2 = er at *
    generalize (wordF (bl.drop Ao)).1 = N at *
    generalize (wordF (bl.drop Ao)).2.1 = KK at *
    subst hE
    go_wp2_with fail
    refine bodyPost_ret (v := .tuple #[.agg #[.int .u64 0, .int .u64 0, .int .u64 0, .int .u64 0, .int .i64 0, .slice none 0 0], .int .i64 er]) (by simp [results, Try.results104, go_sem, a0, a1, a2, a3, a4, a5]) rfl ⟨.slice none 0 0, rfl, by repeat (first | with_reducible exact b06 | with_reducible refine Below.setCell ?_ (by first | (simp; done) | (simp; omega) | omega) _), .inl ⟨none, 0, rfl, fun _ => rfl, rfl⟩⟩
  rw [if_pos he] at hG
  rw [he]
  obtain ⟨nx, hnx⟩ : ∃ n, n = (wordF (bl.drop Ao)).1 := ⟨_, rfl⟩
  have hZ1 := (hZ he).1
  obtain ⟨Ax, hAAx⟩ : ∃ n, n = Ao + (wordF (bl.drop Ao)).2.1 := ⟨_, rfl⟩
  have ex : (((Ao : Nat) : Int) + (((wordF (bl.drop Ao)).2.1 : Nat) : Int)) = (Ax : Int) := by rw [hAAx]; omega
  rw [ex]
  rw [List.drop_drop, ← hAAx, ← hnx] at hG
  rw [← hAAx] at hK
  rw [← hnx] at hZ1
  rw [← hnx]
  have hAx := hK
  clear hZ he hK hnx ex hAAx
  have hx64 := hZ1
  clear hZ1
  go_wp2_with fail
  obtain ⟨w7, hw7⟩ : ∃ w7, w7 = w6.setCell ⟨D, 3, none⟩ (.int .u64 nx) := ⟨_, rfl⟩
  have B7 : BytesAt w7 g o bl := by rw [hw7]; exact BytesAt.set B6 _ (Ne.symm hgD) _
  have H7 : DatAt w7 b0 (.int .u64 0) (.int .u64 0) (.int .u64 0) (.int .u64 0) (.int .i64 0) (.slice none 0 0) := by unfold DatAt; rw [hw7, kept_set _ _ _ _ hbD]; exact H6
  have D7 : DatAt w7 D (.int .u64 np) (.int .u64 nl) (.int .u64 no) (.int .u64 nx) (.int .i64 c) (.slice none 0 0) := by rw [hw7]; exact heap_set_self _ _ _ _ _ _ _ D6
  have b07 : Below w.heap.size w w7 := by rw [hw7]; exact Below.setCell b06 (by simp; omega) _
  have q7 : w7.heap.size = w.heap.size + 2 := by rw [hw7]; simpa using q6
  rw [← hw7]
  clear d0 d1 d2 d3 d4 d5 dz a0 a1 a2 a3 a4 a5 fz x0 x1 x2 x3 x4 x5
  clear y3
  clear hw7 B6 H6 D6 b06
  obtain ⟨hT, hK⟩ := numThere bl Ax HBY.out hAx hlb
  have hZ := numF_zero (bl.drop Ax) (byte_drop HBY.out _)
  have HT := hT _ g o cap B7
  rw [← HLN.out] at HT
  refine HT.mono ?_; rintro e' w' ⟨rfl, rfl⟩
  clear hT HT
  rw [get5] at hG
  obtain ⟨⟨d0, d1, d2, d3, d4, d5⟩, dz⟩ := D7.cells
  obtain ⟨⟨a0, a1, a2, a3, a4, a5⟩, fz⟩ := H7.cells
  have x0 := fz 0
  have x1 := fz 1
  have x2 := fz 2
  have x3 := fz 3
  have x4 := fz 4
  have x5 := fz 5
  rw [hb0] at a0 a1 a2 a3 a4 a5 x0 x1 x2 x3 x4 x5
  by_cases he : (numF (bl.drop Ax)).2.2 = 0
  case neg =>
    rw [if_neg he, Prod.mk.injEq] at hG
    obtain ⟨hE, rfl⟩ := hG
    have hd : ((numF (bl.drop Ax)).2.2 != 0) = true := by rw [bne_iff_ne]; exact he
    clear hZ
    generalize (numF (bl.drop Ax)).2.2 = er at *
    generalize (numF (bl.drop Ax)).1 = N at *
    generalize (numF (bl.drop Ax)).2.1 = KK at *
    subst hE
    go_wp2_with fail
    refine bodyPost_ret (v := .tuple #[.agg #[.int .u64 0, .int .u64 0, .int .u64 0, .int .u64 0, .int .i64 0, .slice none 0 0], .int .i64 er]) (by simp [results, Try.results104, go_sem, a0, a1, a2, a3, a4, a5]) rfl ⟨.slice none 0 0, rfl, by repeat (first | with_reducible exact b07 | with_reducible refine Below.setCell ?_ (by first | (simp; done) | (simp; omega) | omega) _), .inl ⟨none, 0, rfl, fun _ => rfl, rfl⟩⟩
  rw [if_pos he] at hG
  rw [he]
  obtain ⟨nm, hnm⟩ : ∃ n, n = (numF (bl.drop Ax)).1 := ⟨_, rfl⟩
  have hZ1 := (hZ he).1
  obtain ⟨Am, hAAm⟩ : ∃ n, n = Ax + (numF (bl.drop Ax)).2.1 := ⟨_, rfl⟩
  have em : (((Ax : Nat) : Int) + (((numF (bl.drop Ax)).2.1 : Nat) : Int)) = (Am : Int) := by rw [hAAm]; omega
  rw [em]
  rw [List.drop_drop, ← hAAm, ← hnm] at hG
  rw [← hAAm] at hK
  rw [← hnm] at hZ1
  rw [← hnm]
  have hAm := hK
  clear hZ he hK hnm em hAAm
  have hm64 := hZ1
  clear hZ1
  by_cases hx : 1 ≤ nm ∧ nm ≤ 1500 ∧ no ≤ 4611686018427387903 - nm
  case neg =>
    rw [if_neg hx, Prod.mk.injEq] at hG
    obtain ⟨rfl, rfl⟩ := hG
    rcases (by omega : nm < 1 ∨ (1 ≤ nm ∧ 1500 < nm) ∨ (1 ≤ nm ∧ nm ≤ 1500 ∧ 4611686018427387903 - nm < no)) with h | ⟨h, h'⟩ | ⟨h, h', h2'⟩
    · go_wp2_with fail
      refine bodyPost_ret (v := .tuple #[.agg #[.int .u64 0, .int .u64 0, .int .u64 0, .int .u64 0, .int .i64 0, .slice none 0 0], .int .i64 5]) (by simp [results, Try.results104, go_sem, a0, a1, a2, a3, a4, a5]) rfl ⟨.slice none 0 0, rfl, by repeat (first | with_reducible exact b07 | with_reducible refine Below.setCell ?_ (by first | (simp; done) | (simp; omega) | omega) _), .inl ⟨none, 0, rfl, fun _ => rfl, rfl⟩⟩
    · go_wp2_with fail
      refine bodyPost_ret (v := .tuple #[.agg #[.int .u64 0, .int .u64 0, .int .u64 0, .int .u64 0, .int .i64 0, .slice none 0 0], .int .i64 5]) (by simp [results, Try.results104, go_sem, a0, a1, a2, a3, a4, a5]) rfl ⟨.slice none 0 0, rfl, by repeat (first | with_reducible exact b07 | with_reducible refine Below.setCell ?_ (by first | (simp; done) | (simp; omega) | omega) _), .inl ⟨none, 0, rfl, fun _ => rfl, rfl⟩⟩
    · go_wp2_with fail
      refine bodyPost_ret (v := .tuple #[.agg #[.int .u64 0, .int .u64 0, .int .u64 0, .int .u64 0, .int .i64 0, .slice none 0 0], .int .i64 5]) (by simp [results, Try.results104, go_sem, a0, a1, a2, a3, a4, a5]) rfl ⟨.slice none 0 0, rfl, by repeat (first | with_reducible exact b07 | with_reducible refine Below.setCell ?_ (by first | (simp; done) | (simp; omega) | omega) _), .inl ⟨none, 0, rfl, fun _ => rfl, rfl⟩⟩
  rw [if_pos hx, get6] at hG
  obtain ⟨x1', x2', x3'⟩ := hx
  obtain ⟨m, rfl⟩ : ∃ m : Nat, nm = (m : Int) := ⟨nm.toNat, by omega⟩
  have hm1 : 1 ≤ m := by omega
  obtain ⟨ms, hms⟩ : ∃ l, l = bl.drop Am := ⟨_, rfl⟩
  have hml : ms.length = len - Am := by rw [hms, List.length_drop, HLN.out]
  rw [← hms] at hG
  rw [← HLN.out] at hAm
  have HMS := Lib.hid hms
  clear hms
  by_cases hs1 : (ms.length : Int) < m
  · rw [if_pos hs1, Prod.mk.injEq] at hG
    obtain ⟨rfl, rfl⟩ := hG
    have hs2 : (len : Int) - (Am : Int) < (m : Int) := by omega
    go_wp2_with fail
    refine bodyPost_ret (v := .tuple #[.agg #[.int .u64 0, .int .u64 0, .int .u64 0, .int .u64 0, .int .i64 0, .slice none 0 0], .int .i64 2]) (by simp [results, Try.results104, go_sem, a0, a1, a2, a3, a4, a5]) rfl ⟨.slice none 0 0, rfl, by repeat (first | with_reducible exact b07 | with_reducible refine Below.setCell ?_ (by first | (simp; done) | (simp; omega) | omega) _), .inl ⟨none, 0, rfl, fun _ => rfl, rfl⟩⟩
  rw [if_neg hs1] at hG
  have hs2 : ¬ (len : Int) - (Am : Int) < (m : Int) := by omega
  by_cases hs3 : (m : Int) < (ms.length : Int)
  · rw [if_pos hs3, Prod.mk.injEq] at hG
    obtain ⟨rfl, rfl⟩ := hG
    have hs4 : (m : Int) < (len : Int) - (Am : Int) := by omega
    go_wp2_with fail
    refine bodyPost_ret (v := .tuple #[.agg #[.int .u64 0, .int .u64 0, .int .u64 0, .int .u64 0, .int .i64 0, .slice none 0 0], .int .i64 3]) (by simp [results, Try.results104, go_sem, a0, a1, a2, a3, a4, a5]) rfl ⟨.slice none 0 0, rfl, by repeat (first | with_reducible exact b07 | with_reducible refine Below.setCell ?_ (by first | (simp; done) | (simp; omega) | omega) _), .inl ⟨none, 0, rfl, fun _ => rfl, rfl⟩⟩
  rw [if_neg hs3, Prod.mk.injEq] at hG
  obtain ⟨rfl, rfl⟩ := hG
  have hs4 : ¬ (m : Int) < (len : Int) - (Am : Int) := by omega
  have hmm : ms.length = m := by omega
  have hlA : len - Am = m := by omega
  have BM : BytesAt w7 g (o + Am) ms := by rw [HMS.out]; exact BytesAt.drop B7 Am
  have k1 : (Am : Int) ≤ (len : Int) := by omega
  have k2 : (0 : Int) ≤ (Am : Int) := by omega
  have k3 : Am ≤ cap := by omega
  have k4 : (len : Int) ≤ (cap : Int) := by omega
  have k5 : Am < cap := by omega
  have k6 : cap ≠ Am := by omega
  have k7 : Am ≠ cap := by omega
  have k8 : cap - Am ≠ 0 := by omega
  have k9 : ¬ cap = Am := by omega
  go_wp2_with (at_builtin; refine wpList_append_own _ rfl (.const (.slice none 0 0)) (.tmp 132) 44 rfl w7.heap.size 5 i (.int .u8 0) 1 1 Try.underlying44 hi hzz hs hbb rfl (by decide) (.slice none 0 0) 0 [] rfl (World.ownsRow_nil _ _ _ _) ⟨g, o + Am, none⟩ m (cap - Am) (ms.map (.int .u8)) rfl (by simp [hmm]) BM.news (oneCell_bytes _) (by simp [maxLen]; omega) (by omega) (by omega) ?_; intro v8 w8 own8 hgrow8 hnil8; simp only [Nat.zero_add, List.nil_append] at own8; obtain ⟨q, qc, rfl, hq, hqc, hqm, BQ⟩ := ownBytes own8 hm1; have bN : Below w7.heap.size w7 w8 := below_grown (Below.refl _ _) hgrow8 (by omega); obtain ⟨⟨d0, d1, d2, d3, d4, d5⟩, dz⟩ := (D7.belowB D7.lt bN).cells; have y5 := dz 5; obtain ⟨⟨a0, a1, a2, a3, a4, a5⟩, fz⟩ := (H7.belowB H7.lt bN).cells; have x0 := fz 0; have x1 := fz 1; have x2 := fz 2; have x3 := fz 3; have x4 := fz 4; have x5 := fz 5; rw [hb0] at a0 a1 a2 a3 a4 a5 x0 x1 x2 x3 x4 x5)
  have lD := D7.lt
  have lH := H7.lt
  have bE : Below w.heap.size w w8 := b07.trans (bN.mono (by omega))
  refine bodyPost_ret (v := .tuple #[.agg #[.int .u64 np, .int .u64 nl, .int .u64 no, .int .u64 nx, .int .i64 c, .slice (some ⟨q, 0, none⟩) m qc], .int .i64 0]) (by simp [results, Try.results104, go_sem, a0, a1, a2, a3, a4, a5]) rfl ⟨.slice (some ⟨q, 0, none⟩) m qc, rfl, by repeat (first | with_reducible exact bE | with_reducible refine Below.setCell ?_ (by first | (simp; done) | (simp; omega) | omega) _), .inr ⟨q, 0, qc, by rw [hmm], by omega, by omega, hqm, by repeat (first | with_reducible exact BQ | with_reducible refine BytesAt.set ?_ _ (by simp; omega) _)⟩⟩

end Go.Proofs.Ytikkmdbaekdolaa

/- the reference's GetAck, for all bytes. -/
namespace Go.Proofs.Ytikkmdbaekdolaa
open Go.RowKit Go.Lib
set_option linter.unusedVariables false
set_option maxRecDepth 100000

set_option maxHeartbeats 16000000 in
set_option maxRecDepth 100000 in
theorem rGetAck (bv : Value) (bs : List Int) (hb : ∀ x ∈ bs, 0 ≤ x ∧ x ≤ 255) (hlen : bs.length ≤ 140737488351232) (w : World) (hB : BodyAt w bv bs) (E : Int) (d : AckD) (hG : getA bs = (E, d)) :
    Calls Try.prog 85 #[bv] w fun e w' => ∃ v u, e = .returned (.tuple #[ackV d v u, .int .i64 E]) ∧ Below w.heap.size w w' ∧ RowAt w' v d.spans ∧ RowAt w' u d.marked := by
  obtain ⟨w2, hw2⟩ : ∃ w2, w2 = (w.alloc (.cells #[.slice none 0 0, .slice none 0 0, .int .u64 0, .int .u64 0, .bool false] 74 (0, 0))).alloc (.cells #[.slice none 0 0, .slice none 0 0, .int .u64 0, .int .u64 0, .bool false] 74 (0, 0)) := ⟨_, rfl⟩
  have H2 : AckAt w2 w.heap.size (.slice none 0 0) (.slice none 0 0) (.int .u64 0) (.int .u64 0) (.bool false) := by
    rw [hw2]
    exact (AckAt.alloc w _ _ _ _ _).belowB (by simp) ((Below.refl (w.heap.size + 1) _).alloc (by simp) _)
  have D2 : AckAt w2 (w.heap.size + 1) (.slice none 0 0) (.slice none 0 0) (.int .u64 0) (.int .u64 0) (.bool false) := by
    rw [hw2]
    have := AckAt.alloc (w.alloc (.cells #[.slice none 0 0, .slice none 0 0, .int .u64 0, .int .u64 0, .bool false] 74 (0, 0))) (.slice none 0 0) (.slice none 0 0) (.int .u64 0) (.int .u64 0) (.bool false)
    rwa [show (w.alloc (.cells #[.slice none 0 0, .slice none 0 0, .int .u64 0, .int .u64 0, .bool false] 74 (0, 0))).heap.size = w.heap.size + 1 by simp] at this
  have b02 : Below w.heap.size w w2 := by rw [hw2]; exact ((Below.refl _ _).alloc (Nat.le_refl _) _).alloc (by simp) _
  obtain ⟨b0, hb0⟩ : ∃ n, n = w.heap.size := ⟨_, rfl⟩
  obtain ⟨D, hD⟩ : ∃ n, n = w.heap.size + 1 := ⟨_, rfl⟩
  have hbD : b0 ≠ D := by omega
  have hDb : D ≠ b0 := by omega
  have hwD : w.heap.size ≠ D := by omega
  have hDw : D ≠ w.heap.size := by omega
  rw [← hb0] at H2
  rw [← hD] at D2
  have HD := Lib.hid hD
  have hDgt : w.heap.size < D := by omega
  clear hD
  rcases hB with ⟨x, c0, rfl, h0, rfl⟩ | ⟨g, o, cap, rfl, h1, h2, h3, B0⟩
  · rw [getA, Prod.mk.injEq] at hG
    obtain ⟨rfl, rfl⟩ := hG
    go_enter Try.func85, Try.ntmps85
    go_wp2_with fail
    refine bodyPost_ret (v := .tuple #[.agg #[.slice none 0 0, .slice none 0 0, .int .u64 0, .int .u64 0, .bool false], .int .i64 2]) (by simp [results, Try.results85, go_sem]) rfl ⟨.slice none 0 0, .slice none 0 0, rfl, by repeat (first | with_reducible exact Below.refl _ _ | with_reducible refine Below.alloc ?_ (by first | (simp; done) | (simp; omega)) _), RowAt.nil _, RowAt.nil _⟩
  have hgl := B0.1
  have hgD : g ≠ D := by omega
  have hgb : g ≠ b0 := by omega
  have B2 : BytesAt w2 g o bs := B0.below b02
  rcases bs with _ | ⟨k, zs⟩
  · simp at h1
  have ck : w2.cell? ⟨g, o, none⟩ = some (.int .u8 k) := by simpa using B2.at 0 k rfl
  by_cases hk1 : k = 2
  case neg =>
    rw [getA, if_neg hk1, Prod.mk.injEq] at hG
    obtain ⟨rfl, rfl⟩ := hG
    have hd : (k != 2) = true := by rw [bne_iff_ne]; exact hk1
    have ck : w.cell? ⟨g, o, none⟩ = some (.int .u8 k) := by simpa using B0.at 0 k rfl
    go_enter Try.func85, Try.ntmps85
    go_wp2_with fail
    refine bodyPost_ret (v := .tuple #[.agg #[.slice none 0 0, .slice none 0 0, .int .u64 0, .int .u64 0, .bool false], .int .i64 4]) (by simp [results, Try.results85, go_sem]) rfl ⟨.slice none 0 0, .slice none 0 0, rfl, by repeat (first | with_reducible exact Below.refl _ _ | with_reducible refine Below.alloc ?_ (by first | (simp; done) | (simp; omega)) _), RowAt.nil _, RowAt.nil _⟩
  subst hk1
  rw [getA, if_pos rfl] at hG
  have ck : w.cell? ⟨g, o, none⟩ = some (.int .u8 2) := by simpa using B0.at 0 2 rfl
  obtain ⟨len, hln⟩ : ∃ n, n = (2 :: zs).length := ⟨_, rfl⟩
  have hl1 : 1 ≤ len := by rw [hln]; simp
  rw [← hln] at hlen h2
  have hl0 : len ≠ 0 := by omega
  rw [← hln]
  obtain ⟨bl, hbl⟩ : ∃ l, l = 2 :: zs := ⟨_, rfl⟩
  have hzs : zs = bl.drop 1 := by rw [hbl]; rfl
  rw [← hbl] at hb B2 hln
  have HLN := Lib.hid hln
  rw [hzs] at hG
  have hlb : bl.length ≤ 140737488351232 := by omega
  have hcap : bl.length ≤ cap := by omega
  have HBY := Lib.hid hb
  have hA1 : 1 ≤ bl.length := by omega
  clear hzs hbl h1 hln hb
  go_enter Try.func85, Try.ntmps85
  go_wp2_with fail
  rw [show (1 : Int) = ((1 : Nat) : Int) from rfl] -- NATONE
  rw [← hw2, ← HD.out]
  clear hw2 ck B0
  obtain ⟨es, s, ss, hRs⟩ : ∃ e s r, getRowF 1 (bl.drop 1) = (e, s, r) := ⟨_, _, _, rfl⟩
  rw [getA1, hRs] at hG
  simp only at hG
  have HT := rGetRow g o cap bl HBY.out hlb 1 hA1 hcap 1 (by omega) es s ss hRs _ B2
  rw [← HLN.out] at HT
  refine HT.mono ?_; rintro e' w3 ⟨vs, ats, rfl, b3, ns, os⟩
  clear HT
  have B3 := B2.below b3
  have H3 := H2.belowB H2.lt b3
  have D3 := D2.belowB D2.lt b3
  have b03 : Below w.heap.size w w3 := b02.trans (b3.mono b02.size)
  obtain ⟨Bs, hBs⟩ : ∃ n, n = w2.heap.size := ⟨_, rfl⟩
  have hDs : D < Bs := by rw [hBs]; exact D2.lt
  have hbs : b0 < Bs := by rw [hBs]; exact H2.lt
  rw [← hBs] at os
  clear hBs b3 B2 H2 D2 b02
  obtain ⟨⟨d0, d1, d2, d3, d4⟩, dz⟩ := D3.cells
  have y0 := dz 0
  obtain ⟨⟨a0, a1, a2, a3, a4⟩, fz⟩ := H3.cells
  have x0 := fz 0
  have x1 := fz 1
  have x2 := fz 2
  have x3 := fz 3
  have x4 := fz 4
  rw [hb0] at a0 a1 a2 a3 a4 x0 x1 x2 x3 x4
  by_cases he : es = 0
  case neg =>
    rw [if_neg he, Prod.mk.injEq] at hG
    obtain ⟨rfl, rfl⟩ := hG
    obtain rfl := ns he
    have hd : (es != 0) = true := by rw [bne_iff_ne]; exact he
    go_wp2_with fail
    refine bodyPost_ret (v := .tuple #[.agg #[.slice none 0 0, .slice none 0 0, .int .u64 0, .int .u64 0, .bool false], .int .i64 es]) (by simp [results, Try.results85, go_sem, a0, a1, a2, a3, a4]) rfl ⟨.slice none 0 0, .slice none 0 0, rfl, by repeat (first | with_reducible exact b03 | with_reducible refine Below.setCell ?_ (by first | (simp; done) | (simp; omega) | omega) _), RowAt.nil _, RowAt.nil _⟩
  subst he
  rw [if_pos rfl] at hG
  obtain ⟨As, rfl, hAs, drs, own⟩ := os rfl
  rw [HLN.out] at hAs
  obtain ⟨xas, cas, rfl, Ss3⟩ := SIn.ofOwn own
  obtain ⟨gs, _, ls, _, _⟩ := getRowF_ok 1 (bl.drop 1) ss s (byte_drop HBY.out _) hRs
  have Gs := Lib.hid gs
  rw [← drs] at hG
  clear os ns own hRs gs drs
  go_wp2_with fail
  obtain ⟨w4, hw4⟩ : ∃ w4, w4 = w3.setCell ⟨D, 0, none⟩ (.slice xas s.length cas) := ⟨_, rfl⟩
  have B4 : BytesAt w4 g o bl := by rw [hw4]; exact BytesAt.set B3 _ (Ne.symm hgD) _
  have H4 : AckAt w4 b0 (.slice none 0 0) (.slice none 0 0) (.int .u64 0) (.int .u64 0) (.bool false) := by unfold AckAt; rw [hw4, kept_set _ _ _ _ hbD]; exact H3
  have D4 : AckAt w4 D (.slice xas s.length cas) (.slice none 0 0) (.int .u64 0) (.int .u64 0) (.bool false) := by rw [hw4]; exact heap_set_self _ _ _ _ _ _ _ D3
  have b04 : Below w.heap.size w w4 := by rw [hw4]; exact Below.setCell b03 (by simp; omega) _
  have Ss4 : SIn w4 Bs xas s := by rw [hw4]; exact Ss3.set hDs _ _
  rw [← hw4]
  clear d0 d1 d2 d3 d4 dz a0 a1 a2 a3 a4 fz x0 x1 x2 x3 x4
  clear y0
  clear hw4 B3 H3 D3 b03 Ss3
  obtain ⟨em, m, ms, hRm⟩ : ∃ e s r, getRowF 0 (bl.drop As) = (e, s, r) := ⟨_, _, _, rfl⟩
  rw [getA2, hRm] at hG
  simp only at hG
  have HT := rGetRow g o cap bl HBY.out hlb As hAs hcap 0 (by omega) em m ms hRm _ B4
  rw [← HLN.out] at HT
  refine HT.mono ?_; rintro e' w5 ⟨vm, atm, rfl, b5, nm, om⟩
  clear HT
  have B5 := B4.below b5
  have H5 := H4.belowB H4.lt b5
  have D5 := D4.belowB D4.lt b5
  have b05 : Below w.heap.size w w5 := b04.trans (b5.mono b04.size)
  have Ss5 := Ss4.below b5
  obtain ⟨Bm, hBm⟩ : ∃ n, n = w4.heap.size := ⟨_, rfl⟩
  have hDm : D < Bm := by rw [hBm]; exact D4.lt
  have hbm : b0 < Bm := by rw [hBm]; exact H4.lt
  rw [← hBm] at om
  clear hBm b5 B4 H4 D4 b04 Ss4
  obtain ⟨⟨d0, d1, d2, d3, d4⟩, dz⟩ := D5.cells
  have y1 := dz 1
  obtain ⟨⟨a0, a1, a2, a3, a4⟩, fz⟩ := H5.cells
  have x0 := fz 0
  have x1 := fz 1
  have x2 := fz 2
  have x3 := fz 3
  have x4 := fz 4
  rw [hb0] at a0 a1 a2 a3 a4 x0 x1 x2 x3 x4
  by_cases he : em = 0
  case neg =>
    rw [if_neg he, Prod.mk.injEq] at hG
    obtain ⟨rfl, rfl⟩ := hG
    obtain rfl := nm he
    have hd : (em != 0) = true := by rw [bne_iff_ne]; exact he
    go_wp2_with fail
    refine bodyPost_ret (v := .tuple #[.agg #[.slice none 0 0, .slice none 0 0, .int .u64 0, .int .u64 0, .bool false], .int .i64 em]) (by simp [results, Try.results85, go_sem, a0, a1, a2, a3, a4]) rfl ⟨.slice none 0 0, .slice none 0 0, rfl, by repeat (first | with_reducible exact b05 | with_reducible refine Below.setCell ?_ (by first | (simp; done) | (simp; omega) | omega) _), RowAt.nil _, RowAt.nil _⟩
  subst he
  rw [if_pos rfl] at hG
  obtain ⟨Am, rfl, hAm, drm, own⟩ := om rfl
  rw [HLN.out] at hAm
  obtain ⟨xam, cam, rfl, Sm5⟩ := SIn.ofOwn own
  obtain ⟨gm, _, lm, _, _⟩ := getRowF_ok 0 (bl.drop As) ms m (byte_drop HBY.out _) hRm
  have Gm := Lib.hid gm
  rw [← drm] at hG
  clear om nm own hRm gm drm
  go_wp2_with fail
  obtain ⟨w6, hw6⟩ : ∃ w6, w6 = w5.setCell ⟨D, 1, none⟩ (.slice xam m.length cam) := ⟨_, rfl⟩
  have B6 : BytesAt w6 g o bl := by rw [hw6]; exact BytesAt.set B5 _ (Ne.symm hgD) _
  have H6 : AckAt w6 b0 (.slice none 0 0) (.slice none 0 0) (.int .u64 0) (.int .u64 0) (.bool false) := by unfold AckAt; rw [hw6, kept_set _ _ _ _ hbD]; exact H5
  have D6 : AckAt w6 D (.slice xas s.length cas) (.slice xam m.length cam) (.int .u64 0) (.int .u64 0) (.bool false) := by rw [hw6]; exact heap_set_self _ _ _ _ _ _ _ D5
  have b06 : Below w.heap.size w w6 := by rw [hw6]; exact Below.setCell b05 (by simp; omega) _
  have Ss6 : SIn w6 Bs xas s := by rw [hw6]; exact Ss5.set hDs _ _
  have Sm6 : SIn w6 Bm xam m := by rw [hw6]; exact Sm5.set hDm _ _
  rw [← hw6]
  clear d0 d1 d2 d3 d4 dz a0 a1 a2 a3 a4 fz x0 x1 x2 x3 x4
  clear y1
  clear hw6 B5 H5 D5 b05 Ss5 Sm5
  obtain ⟨hT, hK⟩ := wordThere bl Am HBY.out hAm hlb
  have hZ := wordF_zero (bl.drop Am) (byte_drop HBY.out _)
  have HT := hT _ g o cap B6
  rw [← HLN.out] at HT
  refine HT.mono ?_; rintro e' w' ⟨rfl, rfl⟩
  clear hT HT
  rw [getA3] at hG
  obtain ⟨⟨d0, d1, d2, d3, d4⟩, dz⟩ := D6.cells
  have y2 := dz 2
  obtain ⟨⟨a0, a1, a2, a3, a4⟩, fz⟩ := H6.cells
  have x0 := fz 0
  have x1 := fz 1
  have x2 := fz 2
  have x3 := fz 3
  have x4 := fz 4
  rw [hb0] at a0 a1 a2 a3 a4 x0 x1 x2 x3 x4
  by_cases he : (wordF (bl.drop Am)).2.2 = 0
  case neg =>
    rw [if_neg he, Prod.mk.injEq] at hG
    obtain ⟨hE, rfl⟩ := hG
    have hd : ((wordF (bl.drop Am)).2.2 != 0) = true := by rw [bne_iff_ne]; exact he
    clear hZ
    generalize (wordF (bl.drop Am)).2.2 = er at *
    generalize (wordF (bl.drop Am)).1 = N at *
    generalize (wordF (bl.drop Am)).2.1 = KK at *
    subst hE
    go_wp2_with fail
    refine bodyPost_ret (v := .tuple #[.agg #[.slice none 0 0, .slice none 0 0, .int .u64 0, .int .u64 0, .bool false], .int .i64 er]) (by simp [results, Try.results85, go_sem, a0, a1, a2, a3, a4]) rfl ⟨.slice none 0 0, .slice none 0 0, rfl, by repeat (first | with_reducible exact b06 | with_reducible refine Below.setCell ?_ (by first | (simp; done) | (simp; omega) | omega) _), RowAt.nil _, RowAt.nil _⟩
  rw [if_pos he] at hG
  rw [he]
  obtain ⟨nt, hnt⟩ : ∃ n, n = (wordF (bl.drop Am)).1 := ⟨_, rfl⟩
  obtain ⟨At, hAAt⟩ : ∃ n, n = Am + (wordF (bl.drop Am)).2.1 := ⟨_, rfl⟩
  have et : (((Am : Nat) : Int) + (((wordF (bl.drop Am)).2.1 : Nat) : Int)) = (At : Int) := by rw [hAAt]; omega
  rw [et]
  rw [List.drop_drop, ← hAAt, ← hnt] at hG
  rw [← hAAt] at hK
  rw [← hnt]
  have hAt := hK
  clear hZ he hK hnt et hAAt
  go_wp2_with fail
  obtain ⟨w7, hw7⟩ : ∃ w7, w7 = w6.setCell ⟨D, 2, none⟩ (.int .u64 nt) := ⟨_, rfl⟩
  have B7 : BytesAt w7 g o bl := by rw [hw7]; exact BytesAt.set B6 _ (Ne.symm hgD) _
  have H7 : AckAt w7 b0 (.slice none 0 0) (.slice none 0 0) (.int .u64 0) (.int .u64 0) (.bool false) := by unfold AckAt; rw [hw7, kept_set _ _ _ _ hbD]; exact H6
  have D7 : AckAt w7 D (.slice xas s.length cas) (.slice xam m.length cam) (.int .u64 nt) (.int .u64 0) (.bool false) := by rw [hw7]; exact heap_set_self _ _ _ _ _ _ _ D6
  have b07 : Below w.heap.size w w7 := by rw [hw7]; exact Below.setCell b06 (by simp; omega) _
  have Ss7 : SIn w7 Bs xas s := by rw [hw7]; exact Ss6.set hDs _ _
  have Sm7 : SIn w7 Bm xam m := by rw [hw7]; exact Sm6.set hDm _ _
  rw [← hw7]
  clear d0 d1 d2 d3 d4 dz a0 a1 a2 a3 a4 fz x0 x1 x2 x3 x4
  clear y2
  clear hw7 B6 H6 D6 b06 Ss6 Sm6
  obtain ⟨hT, hK⟩ := wordThere bl At HBY.out hAt hlb
  have hZ := wordF_zero (bl.drop At) (byte_drop HBY.out _)
  have HT := hT _ g o cap B7
  rw [← HLN.out] at HT
  refine HT.mono ?_; rintro e' w' ⟨rfl, rfl⟩
  clear hT HT
  rw [getA4] at hG
  obtain ⟨⟨d0, d1, d2, d3, d4⟩, dz⟩ := D7.cells
  have y3 := dz 3
  obtain ⟨⟨a0, a1, a2, a3, a4⟩, fz⟩ := H7.cells
  have x0 := fz 0
  have x1 := fz 1
  have x2 := fz 2
  have x3 := fz 3
  have x4 := fz 4
  rw [hb0] at a0 a1 a2 a3 a4 x0 x1 x2 x3 x4
  by_cases he : (wordF (bl.drop At)).2.2 = 0
  case neg =>
    rw [if_neg he, Prod.mk.injEq] at hG
    obtain ⟨hE, rfl⟩ := hG
    have hd : ((wordF (bl.drop At)).2.2 != 0) = true := by rw [bne_iff_ne]; exact he
    clear hZ
    generalize (wordF (bl.drop At)).2.2 = er at *
    generalize (wordF (bl.drop At)).1 = N at *
    generalize (wordF (bl.drop At)).2.1 = KK at *
    subst hE
    go_wp2_with fail
    refine bodyPost_ret (v := .tuple #[.agg #[.slice none 0 0, .slice none 0 0, .int .u64 0, .int .u64 0, .bool false], .int .i64 er]) (by simp [results, Try.results85, go_sem, a0, a1, a2, a3, a4]) rfl ⟨.slice none 0 0, .slice none 0 0, rfl, by repeat (first | with_reducible exact b07 | with_reducible refine Below.setCell ?_ (by first | (simp; done) | (simp; omega) | omega) _), RowAt.nil _, RowAt.nil _⟩
  rw [if_pos he] at hG
  rw [he]
  obtain ⟨nx, hnx⟩ : ∃ n, n = (wordF (bl.drop At)).1 := ⟨_, rfl⟩
  obtain ⟨Ax, hAAx⟩ : ∃ n, n = At + (wordF (bl.drop At)).2.1 := ⟨_, rfl⟩
  have ex : (((At : Nat) : Int) + (((wordF (bl.drop At)).2.1 : Nat) : Int)) = (Ax : Int) := by rw [hAAx]; omega
  rw [ex]
  rw [List.drop_drop, ← hAAx, ← hnx] at hG
  rw [← hAAx] at hK
  rw [← hnx]
  have hAx := hK
  clear hZ he hK hnx ex hAAx
  rw [← HLN.out] at hAx
  have y4 := dz 4
  have hAx0 : (0 : Int) ≤ (Ax : Int) := by omega
  have hAx1 : (Ax : Int) ≤ (len : Int) := by omega
  have hlI : (len : Int) ≤ 140737488351232 := by omega
  by_cases hend : len ≤ Ax
  · have hnil : bl.drop Ax = [] := List.drop_eq_nil_of_le (by rw [← HLN.out]; exact hend)
    rw [hnil, getA5, Prod.mk.injEq] at hG
    obtain ⟨rfl, rfl⟩ := hG
    have he : (len : Int) ≤ (Ax : Int) := by omega
    go_wp2_with fail
    refine bodyPost_ret (v := .tuple #[.agg #[.slice none 0 0, .slice none 0 0, .int .u64 0, .int .u64 0, .bool false], .int .i64 2]) (by simp [results, Try.results85, go_sem, a0, a1, a2, a3, a4]) rfl ⟨.slice none 0 0, .slice none 0 0, rfl, by repeat (first | with_reducible exact b07 | with_reducible refine Below.setCell ?_ (by first | (simp; done) | (simp; omega) | omega) _), RowAt.nil _, RowAt.nil _⟩
  obtain ⟨pb, us, hd⟩ : ∃ n zs, bl.drop Ax = n :: zs := by
    rcases h : bl.drop Ax with _ | ⟨n, zs⟩
    · have := congrArg List.length h
      rw [List.length_drop, ← HLN.out] at this
      simp at this
      omega
    · exact ⟨n, zs, rfl⟩
  have hpb8 : 0 ≤ pb ∧ pb ≤ 255 := HBY.out pb (List.mem_of_mem_drop (by rw [hd]; simp))
  have hul : us.length = len - Ax - 1 := by
    have := congrArg List.length hd
    rw [List.length_drop, ← HLN.out, List.length_cons] at this
    omega
  have cn : w7.cell? ⟨g, o + Ax, none⟩ = some (.int .u8 pb) := by
    have h := (BytesAt.drop B7 Ax).2 0 (by rw [hd]; simp)
    rw [hd] at h
    simpa using h
  have hlt0 : (Ax : Int) < (len : Int) := by omega
  have hge : ¬ (len : Int) ≤ (Ax : Int) := by omega
  rw [hd, getA5] at hG
  clear hd
  by_cases hx : 1 < pb
  · rw [if_pos hx, Prod.mk.injEq] at hG
    obtain ⟨rfl, rfl⟩ := hG
    go_wp2_with fail
    refine bodyPost_ret (v := .tuple #[.agg #[.slice none 0 0, .slice none 0 0, .int .u64 0, .int .u64 0, .bool false], .int .i64 5]) (by simp [results, Try.results85, go_sem, a0, a1, a2, a3, a4]) rfl ⟨.slice none 0 0, .slice none 0 0, rfl, by repeat (first | with_reducible exact b07 | with_reducible refine Below.setCell ?_ (by first | (simp; done) | (simp; omega) | omega) _), RowAt.nil _, RowAt.nil _⟩
  rw [if_neg hx] at hG
  by_cases hlong : 0 < us.length
  · rw [if_pos hlong, Prod.mk.injEq] at hG
    obtain ⟨rfl, rfl⟩ := hG
    have hL3 : (1 : Int) < (len : Int) - (Ax : Int) := by omega
    go_wp2_with fail
    refine bodyPost_ret (v := .tuple #[.agg #[.slice none 0 0, .slice none 0 0, .int .u64 0, .int .u64 0, .bool false], .int .i64 3]) (by simp [results, Try.results85, go_sem, a0, a1, a2, a3, a4]) rfl ⟨.slice none 0 0, .slice none 0 0, rfl, by repeat (first | with_reducible exact b07 | with_reducible refine Below.setCell ?_ (by first | (simp; done) | (simp; omega) | omega) _), RowAt.nil _, RowAt.nil _⟩
  rw [if_neg hlong] at hG
  have hL3 : ¬ (1 : Int) < (len : Int) - (Ax : Int) := by omega
  clear hlong hul
  go_wp2_with fail
  clear d0 d1 d2 d3 d4 dz a0 a1 a2 a3 a4 fz x0 x1 x2 x3 x4
  clear y3 y4
  obtain ⟨w8, hw8⟩ : ∃ w8, w8 = w7.setCell ⟨D, 3, none⟩ (.int .u64 nx) := ⟨_, rfl⟩
  have B8 : BytesAt w8 g o bl := by rw [hw8]; exact BytesAt.set B7 _ (Ne.symm hgD) _
  have H8 : AckAt w8 b0 (.slice none 0 0) (.slice none 0 0) (.int .u64 0) (.int .u64 0) (.bool false) := by unfold AckAt; rw [hw8, kept_set _ _ _ _ hbD]; exact H7
  have D8 : AckAt w8 D (.slice xas s.length cas) (.slice xam m.length cam) (.int .u64 nt) (.int .u64 nx) (.bool false) := by rw [hw8]; exact heap_set_self _ _ _ _ _ _ _ D7
  have b08 : Below w.heap.size w w8 := by rw [hw8]; exact Below.setCell b07 (by simp; omega) _
  have Ss8 : SIn w8 Bs xas s := by rw [hw8]; exact Ss7.set hDs _ _
  have Sm8 : SIn w8 Bm xam m := by rw [hw8]; exact Sm7.set hDm _ _
  rw [← hw8]
  clear hw8 B7 H7 D7 b07 Ss7 Sm7
  obtain ⟨w9, hw9⟩ : ∃ w9, w9 = w8.setCell ⟨D, 4, none⟩ (.bool (pb == 1)) := ⟨_, rfl⟩
  have B9 : BytesAt w9 g o bl := by rw [hw9]; exact BytesAt.set B8 _ (Ne.symm hgD) _
  have H9 : AckAt w9 b0 (.slice none 0 0) (.slice none 0 0) (.int .u64 0) (.int .u64 0) (.bool false) := by unfold AckAt; rw [hw9, kept_set _ _ _ _ hbD]; exact H8
  have D9 : AckAt w9 D (.slice xas s.length cas) (.slice xam m.length cam) (.int .u64 nt) (.int .u64 nx) (.bool (pb == 1)) := by rw [hw9]; exact heap_set_self _ _ _ _ _ _ _ D8
  have b09 : Below w.heap.size w w9 := by rw [hw9]; exact Below.setCell b08 (by simp; omega) _
  have Ss9 : SIn w9 Bs xas s := by rw [hw9]; exact Ss8.set hDs _ _
  have Sm9 : SIn w9 Bm xam m := by rw [hw9]; exact Sm8.set hDm _ _
  rw [← hw9]
  clear hw9 B8 H8 D8 b08 Ss8 Sm8
  clear hL3 hx cn
  obtain ⟨gam, gwm, _⟩ := goodL_all m 0 (by omega) Gm.out
  obtain ⟨gas, gws, _⟩ := goodL_all s 0 (by omega) Gs.out
  refine (rInside xam xas cam cas m s (by omega) (by omega) (decide (insideAll m s)) decide_eq_true_iff _ Sm9.row Ss9.row).mono ?_; rintro e' w10 ⟨rfl, b10⟩
  have B10 := B9.below b10
  have H10 := H9.belowB H9.lt b10
  have D10 := D9.belowB D9.lt b10
  have b010 : Below w.heap.size w w10 := b09.trans (b10.mono b09.size)
  have Ss10 := Ss9.below b10
  have Sm10 := Sm9.below b10
  clear gam gwm gas gws b10 B9 H9 D9 b09 Ss9 Sm9
  obtain ⟨⟨d0, d1, d2, d3, d4⟩, dz⟩ := D10.cells
  obtain ⟨⟨a0, a1, a2, a3, a4⟩, fz⟩ := H10.cells
  have x0 := fz 0
  have x1 := fz 1
  have x2 := fz 2
  have x3 := fz 3
  have x4 := fz 4
  rw [hb0] at a0 a1 a2 a3 a4 x0 x1 x2 x3 x4
  by_cases hi : insideAll m s
  case neg =>
    rw [if_neg hi, Prod.mk.injEq] at hG
    obtain ⟨rfl, rfl⟩ := hG
    rw [decide_eq_false hi]
    go_wp2_with fail
    refine bodyPost_ret (v := .tuple #[.agg #[.slice none 0 0, .slice none 0 0, .int .u64 0, .int .u64 0, .bool false], .int .i64 5]) (by simp [results, Try.results85, go_sem, a0, a1, a2, a3, a4]) rfl ⟨.slice none 0 0, .slice none 0 0, rfl, by repeat (first | with_reducible exact b010 | with_reducible refine Below.setCell ?_ (by first | (simp; done) | (simp; omega) | omega) _), RowAt.nil _, RowAt.nil _⟩
  rw [if_pos hi, Prod.mk.injEq] at hG
  obtain ⟨rfl, rfl⟩ := hG
  rw [decide_eq_true hi]
  go_wp2_with fail
  rw [← hb0]
  refine bodyPost_ret (v := .tuple #[.agg #[.slice xas s.length cas, .slice xam m.length cam, .int .u64 nt, .int .u64 nx, .bool (pb == 1)], .int .i64 0]) (by rw [hb0]; simp [results, Try.results85, go_sem, a0, a1, a2, a3, a4]) rfl ⟨.slice xas s.length cas, .slice xam m.length cam, rfl, by rw [hb0]; repeat (first | with_reducible exact b010 | with_reducible refine Below.setCell ?_ (by first | (simp; done) | (simp; omega) | omega) _), ⟨xas, cas, rfl, SIn.row (B := Bs) (by repeat (first | with_reducible exact Ss10 | with_reducible refine SIn.set ?_ hbs _ _))⟩, ⟨xam, cam, rfl, SIn.row (B := Bm) (by repeat (first | with_reducible exact Sm10 | with_reducible refine SIn.set ?_ hbm _ _))⟩⟩

end Go.Proofs.Ytikkmdbaekdolaa

/- the reference's Harmless, of any row and any bytes. -/
namespace Go.Proofs.Ytikkmdbaekdolaa
open Go.RowKit Go.Lib
set_option linter.unusedVariables false
set_option maxRecDepth 100000

/-- an acknowledgment's block, at its third cell -/
def TrigqHarm (w : World) (D : Nat) (t : Int) : Prop := D < w.heap.size ∧ w.cell? ⟨D, 2, none⟩ = some (.int .u64 t)
theorem TrigqHarm.cellsIn {w w' : World} {D : Nat} {t : Int} (h : TrigqHarm w D t) (hb : Below w.heap.size w w') : TrigqHarm w' D t := ⟨Nat.lt_of_lt_of_le h.1 hb.size, (hb.cell (p := ⟨D, 2, none⟩) h.1).trans h.2⟩

set_option maxHeartbeats 2000000 in
theorem qHarmErr (v0 : Value) (bv : Value) (bs : List Int) (hb : ∀ x ∈ bs, 0 ≤ x ∧ x ≤ 255) (hlen : bs.length ≤ 140737488351232) (w : World) (hB : BodyAt w bv bs) (E : Int) (d : AckD) (hG : getA bs = (E, d)) (hE : (E != 0) = true) :
    Calls Try.prog 45 #[v0, bv] w fun e w' => e = .returned (.bool true) ∧ Below w.heap.size w w' := by
  have HD := Lib.hid (fun W (h : BodyAt W bv bs) => rGetAck bv bs hb hlen W h E d hG)
  have HBB := Lib.hid hB
  clear hB hG hb hlen
  go_enter Try.func45, Try.ntmps45
  go_wp2_with fail
  ((with_reducible refine (HD.out _ (HBB.out.below (by repeat (first | with_reducible exact Below.refl _ _ | with_reducible apply below_drewN | with_reducible apply Below.drew | with_reducible refine Below.alloc ?_ (by first | exact Nat.le_refl _ | (simp; done) | (simp; omega)) _ | with_reducible refine Below.setCell ?_ (by first | exact Nat.le_refl _ | (simp; done) | (simp; omega)) _)))).mono ?_); rintro e' w1 ⟨v, u, rfl, b1, r1, r2⟩)
  have b2 : Below w.heap.size w w1 := (show Below w.heap.size w _ from (by repeat (first | with_reducible exact Below.refl _ _ | with_reducible apply below_drewN | with_reducible apply Below.drew | with_reducible refine Below.alloc ?_ (by first | exact Nat.le_refl _ | (simp; done) | (simp; omega)) _ | with_reducible refine Below.setCell ?_ (by first | exact Nat.le_refl _ | (simp; done) | (simp; omega)) _))).trans (b1.mono (by first | exact Nat.le_refl _ | (simp; done) | (simp; omega)))
  obtain ⟨x1, c1, rfl, _⟩ := r1
  obtain ⟨x2, c2, rfl, _⟩ := r2
  have hE2 : (E == 0) = false := by
    cases h : (E == 0)
    · rfl
    · rw [bne, h] at hE; cases hE
  unfold ackV
  go_wp2_with fail
  go_ret
  exact ⟨rfl, by repeat (first | with_reducible exact b2 | with_reducible apply below_drewN | with_reducible apply Below.drew | with_reducible refine Below.alloc ?_ (by have := b2.size; first | exact this | (simp; omega)) _ | with_reducible refine Below.setCell ?_ (by have := b2.size; first | exact this | (simp; omega)) _)⟩

set_option maxHeartbeats 8000000 in
set_option maxRecDepth 100000 in
theorem qHarmOk (x : Option Addr) (c : Nat) (l : List SentP) (hl : l.length ≤ 9223372036854775807) (bv : Value) (bs : List Int) (hb : ∀ x ∈ bs, 0 ≤ x ∧ x ≤ 255) (hlen : bs.length ≤ 140737488351232) (w : World) (hB : BodyAt w bv bs) (hS : SentRow w x l) (d : AckD) (hG : getA bs = (0, d)) (B : Bool) (hQ : B = true ↔ harmP l d.trig) :
    Calls Try.prog 45 #[.slice x l.length c, bv] w fun e w' => e = .returned (.bool B) ∧ Below w.heap.size w w' := by
  have HD := Lib.hid (fun W (h : BodyAt W bv bs) => rGetAck bv bs hb hlen W h 0 d hG)
  have HBB := Lib.hid hB
  have HSS := Lib.hid hS
  have HQ := Lib.hid hQ
  clear hB hG hb hlen hS hQ
  obtain ⟨n, hn⟩ : ∃ n, l.length = n := ⟨_, rfl⟩
  have HN := Lib.hid hn
  rw [hn] at hl ⊢
  clear hn
  have hnI : (n : Int) ≤ 9223372036854775807 := by omega
  go_enter Try.func45, Try.ntmps45
  go_wp2_with fail
  ((with_reducible refine (HD.out _ (HBB.out.below (by repeat (first | with_reducible exact Below.refl _ _ | with_reducible apply below_drewN | with_reducible apply Below.drew | with_reducible refine Below.alloc ?_ (by first | exact Nat.le_refl _ | (simp; done) | (simp; omega)) _ | with_reducible refine Below.setCell ?_ (by first | exact Nat.le_refl _ | (simp; done) | (simp; omega)) _)))).mono ?_); rintro e' w1 ⟨v, u, rfl, b1, r1, r2⟩)
  have B1 : Below w.heap.size w w1 := (show Below w.heap.size w _ from (by repeat (first | with_reducible exact Below.refl _ _ | with_reducible apply below_drewN | with_reducible apply Below.drew | with_reducible refine Below.alloc ?_ (by first | exact Nat.le_refl _ | (simp; done) | (simp; omega)) _ | with_reducible refine Below.setCell ?_ (by first | exact Nat.le_refl _ | (simp; done) | (simp; omega)) _))).trans (b1.mono (by first | exact Nat.le_refl _ | (simp; done) | (simp; omega)))
  obtain ⟨x1, c1, rfl, _⟩ := r1
  obtain ⟨x2, c2, rfl, _⟩ := r2
  clear b1
  unfold ackV
  generalize d.spans.length = n1
  generalize d.marked.length = n2
  have sb := B1.size
  go_wp2_with fail
  go_loopw [7] (fun i wr => ∃ k : Nat, i = .int .i64 (k : Int) ∧ k ≤ n ∧ (∀ j, j < k → ¬ badS d.trig (l.getD j zS)) ∧ TrigqHarm wr w1.heap.size d.trig ∧ Below w.heap.size w wr) (fun i _ => (n - intOf i).toNat)
  case atStart => exact ⟨0, by first | rfl | simp, by omega, fun j hj => absurd hj (by omega), ⟨by simp; try omega, by simp⟩, by repeat (first | with_reducible exact B1 | with_reducible apply below_drewN | with_reducible apply Below.drew | with_reducible refine Below.alloc ?_ (by first | exact sb | (simp; omega)) _ | with_reducible refine Below.setCell ?_ (by first | exact sb | (simp; omega)) _)⟩
  case round =>
    clear B1 sb
    obtain ⟨k, rfl, hk, hno, rA, hbel⟩ := hrel
    have HNO := Lib.hid hno
    have HBEL := Lib.hid hbel
    have hD := rA.1
    have hDc := rA.2
    clear hno hbel
    by_cases hlt : k < n
    · have hltI : (k : Int) < (n : Int) := by omega
      obtain ⟨g, o, rfl, hSA⟩ := SentRow.at HSS.out k (by rw [HN.out]; exact hlt)
      obtain ⟨hg, hSA⟩ := hSA.below (HBEL.out.mono (Nat.le_refl _))
      obtain ⟨q0, q1, q2, q3, q4, q5, q6, q7⟩ := hSA k (by rw [HN.out]; exact hlt)
      have HNX := Lib.hid (fun (h : ¬ badS d.trig (l.getD k zS)) => (fun j hj => by
        rcases (by omega : j < k ∨ j = k) with h3 | rfl
        · exact HNO.out j h3
        · exact h : ∀ j, j < k + 1 → ¬ badS d.trig (l.getD j zS)))
      have HFB := Lib.hid (fun (h : badS d.trig (l.getD k zS)) => (by
        show B = false
        cases hb : B
        · rfl
        · exact absurd h (HQ.out.1 hb k (by rw [HN.out]; exact hlt)) : B = false))
      clear HNO hSA
      generalize l.getD k zS = s at *
      obtain ⟨s0, s1, s2, s3, s4, s5, s6, s7⟩ := s
      simp only at q0 q1 q2 q3 q4 q5 q6 q7
      by_cases h7 : s7 = 4
      case pos =>
        have e7 : (s7 != 4) = false := by rw [h7]; rfl
        have HW := Lib.hid (show ¬ badS d.trig ⟨s0, s1, s2, s3, s4, s5, s6, s7⟩ from fun h => h.1 h7)
        clear h7
        go_wp2_with fail
        go_quiet (fail)
        go_wp2_with fail
        go_roundw
        case rel => exact ⟨k + 1, by congr 1, by omega, HNX.out HW.out, rA.cellsIn (by first | exact Below.refl _ _ | (repeat (first | with_reducible exact Below.refl _ _ | with_reducible apply below_drewN | with_reducible apply Below.drew | with_reducible refine Below.alloc ?_ (by first | exact Nat.le_refl _ | (simp; done) | (simp; omega)) _ | with_reducible refine Below.setCell ?_ (by first | exact Nat.le_refl _ | (simp; done) | (simp; omega)) _))), by repeat (first | with_reducible exact HBEL.out | with_reducible apply below_drewN | with_reducible apply Below.drew | with_reducible refine Below.alloc ?_ (by have := HBEL.out.size; first | exact this | (simp; done) | (simp; omega)) _ | with_reducible refine Below.setCell ?_ (by have := HBEL.out.size; first | exact this | (simp; done) | (simp; omega)) _)⟩
        case measure => simp only [intOf]; omega
      have e7 : (s7 != 4) = true := by rw [bne_iff_ne]; exact h7
      have HNE := Lib.hid h7
      clear h7
      cases s6
      case true =>
        have HW := Lib.hid (show ¬ badS d.trig ⟨s0, s1, s2, s3, s4, s5, true, s7⟩ from fun h => by have h2 : true = false := h.2.1; cases h2)
        go_wp2_with fail
        go_quiet (fail)
        go_wp2_with fail
        go_roundw
        case rel => exact ⟨k + 1, by congr 1, by omega, HNX.out HW.out, rA.cellsIn (by first | exact Below.refl _ _ | (repeat (first | with_reducible exact Below.refl _ _ | with_reducible apply below_drewN | with_reducible apply Below.drew | with_reducible refine Below.alloc ?_ (by first | exact Nat.le_refl _ | (simp; done) | (simp; omega)) _ | with_reducible refine Below.setCell ?_ (by first | exact Nat.le_refl _ | (simp; done) | (simp; omega)) _))), by repeat (first | with_reducible exact HBEL.out | with_reducible apply below_drewN | with_reducible apply Below.drew | with_reducible refine Below.alloc ?_ (by have := HBEL.out.size; first | exact this | (simp; done) | (simp; omega)) _ | with_reducible refine Below.setCell ?_ (by have := HBEL.out.size; first | exact this | (simp; done) | (simp; omega)) _)⟩
        case measure => simp only [intOf]; omega
      by_cases h3 : s3 = d.trig
      case neg =>
        have e3 : (s3 == d.trig) = false := by rw [beq_eq_false_iff_ne]; exact h3
        have HW := Lib.hid (show ¬ badS d.trig ⟨s0, s1, s2, s3, s4, s5, false, s7⟩ from fun h => h3 h.2.2)
        clear h3
        go_wp2_with fail
        go_quiet (fail)
        go_wp2_with fail
        go_roundw
        case rel => exact ⟨k + 1, by congr 1, by omega, HNX.out HW.out, rA.cellsIn (by first | exact Below.refl _ _ | (repeat (first | with_reducible exact Below.refl _ _ | with_reducible apply below_drewN | with_reducible apply Below.drew | with_reducible refine Below.alloc ?_ (by first | exact Nat.le_refl _ | (simp; done) | (simp; omega)) _ | with_reducible refine Below.setCell ?_ (by first | exact Nat.le_refl _ | (simp; done) | (simp; omega)) _))), by repeat (first | with_reducible exact HBEL.out | with_reducible apply below_drewN | with_reducible apply Below.drew | with_reducible refine Below.alloc ?_ (by have := HBEL.out.size; first | exact this | (simp; done) | (simp; omega)) _ | with_reducible refine Below.setCell ?_ (by have := HBEL.out.size; first | exact this | (simp; done) | (simp; omega)) _)⟩
        case measure => simp only [intOf]; omega
      have e3 : (s3 == d.trig) = true := by rw [beq_iff_eq]; exact h3
      have FB := Lib.hid (HFB.out ⟨HNE.out, rfl, h3⟩)
      clear h3
      go_wp2_with fail
      go_quiet (fail)
      go_wp2_with fail
      go_ret
      exact ⟨ret_bool FB.out.symm, by repeat (first | with_reducible exact HBEL.out | with_reducible apply below_drewN | with_reducible apply Below.drew | with_reducible refine Below.alloc ?_ (by have := HBEL.out.size; first | exact this | (simp; done) | (simp; omega)) _ | with_reducible refine Below.setCell ?_ (by have := HBEL.out.size; first | exact this | (simp; done) | (simp; omega)) _)⟩
    · have hdd : decide ((k : Int) < (n : Int)) = false := by rw [decide_eq_false_iff_not]; omega
      have TB : Hid (B = true) := HQ.out.2 fun i hi => HNO.out i (by rw [HN.out] at hi; omega)
      go_wp2_with fail
      go_ret
      exact ⟨ret_bool TB.out.symm, HBEL.out⟩

theorem qHarm (x : Option Addr) (c : Nat) (l : List SentP) (hl : l.length ≤ 9223372036854775807) (bv : Value) (bs : List Int) (hb : ∀ x ∈ bs, 0 ≤ x ∧ x ≤ 255) (hlen : bs.length ≤ 140737488351232) (w : World) (hB : BodyAt w bv bs) (hS : SentRow w x l) (E : Int) (d : AckD) (hG : getA bs = (E, d)) (B : Bool) (hQ : B = true ↔ (E ≠ 0 ∨ harmP l d.trig)) :
    Calls Try.prog 45 #[.slice x l.length c, bv] w fun e w' => e = .returned (.bool B) ∧ Below w.heap.size w w' := by
  by_cases h0 : E = 0
  · subst h0
    exact qHarmOk x c l hl bv bs hb hlen w hB hS d hG B (hQ.trans ⟨fun h => h.resolve_left (fun k => k rfl), .inr⟩)
  · have hb' : B = true := hQ.2 (.inl h0)
    subst hb'
    exact qHarmErr _ bv bs hb hlen w hB E d hG (by rw [bne_iff_ne]; exact h0)

end Go.Proofs.Ytikkmdbaekdolaa

/- ack.Encode and the reference's PutAck, of any acknowledgment. -/
namespace Go.Proofs.Ytikkmdbaekdolaa
open Go.RowKit Go.Lib
set_option linter.unusedVariables false
set_option maxRecDepth 100000

theorem MayA.rows {d : AckD} (h : MayA d) : mayRows d.spans d.marked :=
  ⟨h.sl.1, h.sl.2, h.ml, (goodL_all _ 0 (Int.le_refl _) h.s).1, (goodL_all _ 0 (Int.le_refl _) h.m).1, h.ins⟩
theorem SLow.mono {w : World} {B B' : Nat} {x : Option Addr} {l : List (Int × Int)} (h : SLow w B x l) (hB : B ≤ B') : SLow w B' x l := by
  rcases h with h | ⟨g, o, h1, h2, h3⟩
  · exact .inl h
  · exact .inr ⟨g, o, h1, by omega, h3⟩



set_option maxHeartbeats 8000000 in
theorem rPutAck (x y : Option Addr) (cx cy : Nat) (l m : List (Int × Int)) (t r : Int) (p : Bool) (hd : MayA ⟨l, m, t, r, p⟩) (w : World) (hSl : SRow w x l) (hSm : SRow w y m) :
    Calls Try.prog 46 #[.agg #[.slice x l.length cx, .slice y m.length cy, .int .u64 t, .int .u64 r, .bool p]] w fun e w' => ∃ v, e = .returned v ∧ Below w.heap.size w w' ∧ w'.ownsRow w.heap.size 5 1 v (putAckL ⟨l, m, t, r, p⟩).length ((putAckL ⟨l, m, t, r, p⟩).map (.int .u8)) := by
  obtain ⟨i, hi', hz, hs, hbb⟩ := info_parts (P := Try.prog) (e := 5) (z := .int .u8 0) (size := 1) (bytes := 1) (by kernel_rfl)
  obtain ⟨p1, p2, p3, p4, p5, p6, p7⟩ := hd
  simp only at p1 p2 p3 p4 p5 p6 p7
  have CL : ∀ (B : Nat) (v0 : Value) (xs : List Int), xs.length ≤ 100000 → ∀ W : World, B ≤ W.heap.size → SLow W B x l → W.ownsRow B 5 1 v0 xs.length (xs.map (.int .u8)) → _ := fun B v0 xs h W hB S own => rPutRow B v0 xs h x cx l p1 p3.2 W hB S own
  have CK : ∀ (B : Nat) (v0 : Value) (xs : List Int), xs.length ≤ 100000 → ∀ W : World, B ≤ W.heap.size → SLow W B y m → W.ownsRow B 5 1 v0 xs.length (xs.map (.int .u8)) → _ := fun B v0 xs h W hB S own => rPutRow B v0 xs h y cy m p2 p4 W hB S own
  have K1 := putRowL_len l
  have K2 := putRowL_len m
  have hput : putAckL ⟨l, m, t, r, p⟩ = [2] ++ putRowL l ++ putRowL m ++ eightL t ++ eightL r ++ [parL p] := by simp [putAckL]
  rw [hput]
  obtain ⟨bl, hbl⟩ : ∃ b, b = putRowL l := ⟨_, rfl⟩
  obtain ⟨cl, hcl⟩ : ∃ b, b = putRowL m := ⟨_, rfl⟩
  rw [← hbl] at CL K1
  rw [← hcl] at CK K2
  rw [← hbl, ← hcl]
  have HCL := Lib.hid CL
  have HCK := Lib.hid CK
  have el := eightL_len t
  have el2 := eightL_len r
  have k1 : bl.length ≤ 513 := by omega
  have k2 : cl.length ≤ 513 := by omega
  have HT := Lib.hid p6
  have HX := Lib.hid p7
  clear CL CK p1 p2 p3 p4 p5 p6 p7 hput hbl hcl K1 K2
  go_enter Try.func46, Try.ntmps46
  go_wp2_with fail
  obtain ⟨w2, hw2⟩ : ∃ w2, w2 = (w.alloc (.cells #[.slice x l.length cx, .slice y m.length cy, .int .u64 t, .int .u64 r, .bool p] 74 (0, 0))).alloc (.cells #[.int .u8 2] 5) := ⟨_, rfl⟩
  have D2 : AckAt w2 w.heap.size (.slice x l.length cx) (.slice y m.length cy) (.int .u64 t) (.int .u64 r) (.bool p) := by
    rw [hw2]
    exact (AckAt.alloc w _ _ _ _ _).belowB (by simp) ((Below.refl (w.heap.size + 1) _).alloc (by simp) _)
  have own2 : w2.ownsRow (w.heap.size + 1) 5 1 (.slice (some ⟨w.heap.size + 1, 0, none⟩) 1 1) 1 ([2].map (.int .u8)) := by
    rw [hw2]
    have := World.ownsRow_lit (base := w.heap.size + 1) (e := 5) (size := 1) (w.alloc (.cells #[.slice x l.length cx, .slice y m.length cy, .int .u64 t, .int .u64 r, .bool p] 74 (0, 0))) #[.int .u8 2] 1 (by simp) (by simp [maxLen]) rfl
    rwa [show (w.alloc (.cells #[.slice x l.length cx, .slice y m.length cy, .int .u64 t, .int .u64 r, .bool p] 74 (0, 0))).heap.size = w.heap.size + 1 by simp] at this
  have b02 : Below w.heap.size w w2 := by rw [hw2]; exact ((Below.refl _ _).alloc (Nat.le_refl _) _).alloc (by simp) _
  have SL2 := ((hSl.low (Nat.le_refl _)).below b02).mono (Nat.le_succ _)
  have SM2 := ((hSm.low (Nat.le_refl _)).below b02).mono (Nat.le_succ _)
  have t2 : w.heap.size + 1 ≤ w2.heap.size := D2.lt
  rw [← hw2]
  clear hw2 hSl hSm
  obtain ⟨v2, hv2⟩ : ∃ v, v = Value.slice (some ⟨w.heap.size + 1, 0, none⟩) 1 1 := ⟨_, rfl⟩
  rw [← hv2] at own2 ⊢
  clear hv2
  refine (HCL.out (w.heap.size + 1) v2 [2] (by simp) _ t2 SL2 own2).mono ?_; rintro e' w3 ⟨v3, rfl, b23, own3⟩
  have D3 := D2.belowB (Nat.lt_succ_self _) b23
  have SM3 := SM2.below b23
  have b03 : Below w.heap.size w w3 := b02.trans (b23.mono (by omega))
  have t3 : w.heap.size + 1 ≤ w3.heap.size := D3.lt
  clear D2 SL2 SM2 b02 own2 b23
  obtain ⟨d0, d1, d2, d3, d4⟩ := D3.cells.1
  go_wp2_with fail
  refine (HCK.out (w.heap.size + 1) v3 ([2] ++ bl) (by simp; omega) _ t3 SM3 own3).mono ?_; rintro e' w4 ⟨v4, rfl, b34, own4⟩
  have D4 := D3.belowB (Nat.lt_succ_self _) b34
  have b04 : Below w.heap.size w w4 := b03.trans (b34.mono (by omega))
  have t4 : w.heap.size + 1 ≤ w4.heap.size := D4.lt
  clear D3 SM3 b03 own3 d0 d1 d2 d3 d4 b34
  obtain ⟨d0, d1, d2, d3, d4⟩ := D4.cells.1
  have l4 : ([2] ++ bl ++ cl).length ≤ 1100 := by simp; omega
  obtain ⟨n4, hn4⟩ : ∃ n, n = ([2] ++ bl ++ cl).length := ⟨_, rfl⟩
  rw [← hn4] at own4 l4
  go_wp2_with fail
  refine (rEightOn t HT.out (w.heap.size + 1) n4 v4 ([2] ++ bl ++ cl) _ t4 (by omega) own4).mono ?_; rintro e' w5 ⟨v5, rfl, b45, own5⟩
  have D5 := D4.belowB (Nat.lt_succ_self _) b45
  have b05 : Below w.heap.size w w5 := b04.trans (b45.mono (by omega))
  have t5 : w.heap.size + 1 ≤ w5.heap.size := D5.lt
  clear D4 b04 own4 d0 d1 d2 d3 d4 b45
  obtain ⟨d0, d1, d2, d3, d4⟩ := D5.cells.1
  go_wp2_with fail
  refine (rEightOn r HX.out (w.heap.size + 1) (n4 + 8) v5 ([2] ++ bl ++ cl ++ eightL t) _ t5 (by omega) own5).mono ?_; rintro e' w6 ⟨v6, rfl, b56, own6⟩
  have D6 := D5.belowB (Nat.lt_succ_self _) b56
  have b06 : Below w.heap.size w w6 := b05.trans (b56.mono (by omega))
  have t6 : w.heap.size + 1 ≤ w6.heap.size := D6.lt
  clear D5 b05 own5 d0 d1 d2 d3 d4 b56
  obtain ⟨d0, d1, d2, d3, d4⟩ := D6.cells.1
  have hlen : ([2] ++ bl ++ cl ++ eightL t ++ eightL r ++ [parL p]).length = n4 + 8 + 8 + 1 := by rw [hn4]; simp [el, el2]; omega
  have HLEN := Lib.hid hlen
  clear hlen hn4
  cases p
  · go_wp2_with (at_builtin; refine wpList_append_own _ rfl (.tmp 25) (.tmp 26) 44 rfl (w.heap.size + 1) 5 i (.int .u8 0) 1 1 Try.underlying44 hi' hz hs hbb rfl (by decide) _ (n4 + 8 + 8) _ rfl (own6.alloc _) ⟨w6.heap.size, 0, none⟩ 1 1 [.int .u8 0] rfl rfl (news1 _ _ _) (one1 _) (by simp [maxLen]; omega) (by omega) (by simp; omega) ?_; intro vZ wZ ownZ hgrowZ hnilZ)
    have bZ : Below (w.heap.size + 1) w6 wZ := below_grownR ((Below.refl _ _).alloc t6 _) hgrowZ (by simp; omega) (fun k hk => (own6.lt k hk).1)
    rw [show [Value.int .u8 0] = [parL false].map (Value.int .u8) from rfl, ← List.map_append] at ownZ
    go_ret
    exact ⟨vZ, rfl, b06.trans (bZ.mono (Nat.le_succ _)), by have OF := own_base ownZ (Nat.le_succ _); rw [← HLEN.out] at OF; exact OF⟩
  · go_wp2_with (at_builtin; refine wpList_append_own _ rfl (.tmp 22) (.tmp 23) 44 rfl (w.heap.size + 1) 5 i (.int .u8 0) 1 1 Try.underlying44 hi' hz hs hbb rfl (by decide) _ (n4 + 8 + 8) _ rfl (own6.alloc _) ⟨w6.heap.size, 0, none⟩ 1 1 [.int .u8 1] rfl rfl (news1 _ _ _) (one1 _) (by simp [maxLen]; omega) (by omega) (by simp; omega) ?_; intro vZ wZ ownZ hgrowZ hnilZ)
    have bZ : Below (w.heap.size + 1) w6 wZ := below_grownR ((Below.refl _ _).alloc t6 _) hgrowZ (by simp; omega) (fun k hk => (own6.lt k hk).1)
    rw [show [Value.int .u8 1] = [parL true].map (Value.int .u8) from rfl, ← List.map_append] at ownZ
    go_ret
    exact ⟨vZ, rfl, b06.trans (bZ.mono (Nat.le_succ _)), by have OF := own_base ownZ (Nat.le_succ _); rw [← HLEN.out] at OF; exact OF⟩

end Go.Proofs.Ytikkmdbaekdolaa

/- the reference's LastSpans; the laws' own Row, Part, Ack. -/
namespace Go.Proofs.Ytikkmdbaekdolaa
open Go.RowKit Go.Lib
set_option linter.unusedVariables false
set_option maxRecDepth 100000

set_option maxHeartbeats 4000000 in
theorem rLastSpans (v : Value) (l : List (Int × Int)) (hlen : l.length ≤ 100000) (w : World) (hR : RowV w v l) :
    Calls Try.prog 120 #[v, .int .i64 32] w fun e w' => ∃ v', e = .returned v' ∧ Below w.heap.size w w' ∧ w'.ownsRow w.heap.size 80 2 v' (lastS l).length (flatS (lastS l)) := by
  obtain ⟨i, hi, hzz, hs, hbb⟩ := info_parts (P := Try.prog) (e := 80) (z := .agg #[.int .u64 0, .int .u64 0]) (size := 2) (bytes := 16) (by kernel_rfl)
  rcases hR with ⟨rfl, rfl⟩ | ⟨g, o, c, rfl, hnc, hcm, hS⟩
  · go_enter Try.func120, Try.ntmps120
    go_wp2_with (at_builtin; refine wpList_append_none rfl (.const (.slice none 0 0)) (.tmp 18) 72 rfl w.heap.size 80 i 2 Try.underlying72 hi hs (.slice none 0 0) 0 [] rfl (World.ownsRow_nil _ _ _ _) (by rfl) ?_)
    go_ret
    exact ⟨_, rfl, Below.refl _ _, World.ownsRow_nil _ _ _ _⟩
  · have HS := Lib.hid hS
    clear hS
    by_cases h32 : l.length ≤ 32
    · have hl : lastS l = l := by unfold lastS; rw [show l.length - 32 = 0 by omega]; rfl
      rw [hl]
      obtain ⟨n, hn⟩ : ∃ n, l.length = n := ⟨_, rfl⟩
      have HN := Lib.hid hn
      rw [hn] at hlen hnc h32 ⊢
      clear hn hl
      have h1 : (n : Int) ≤ 32 := by omega
      have h2 : (0 : Int) ≤ (n : Int) := by omega
      go_enter Try.func120, Try.ntmps120
      go_wp2_with (at_builtin; refine wpList_append_own _ rfl (.const (.slice none 0 0)) (.tmp 18) 72 rfl w.heap.size 80 i (.agg #[.int .u64 0, .int .u64 0]) 2 16 Try.underlying72 hi hzz hs hbb rfl (by decide) (.slice none 0 0) 0 [] rfl (World.ownsRow_nil _ _ _ _) ⟨g, o, none⟩ _ _ (flatS l) (by rfl) (by rw [flatS_len, HN.out]) HS.out.news (flatS_one _) (by simp [maxLen]; omega) (by omega) (Nat.le_refl _) ?_; intro v6 w6 own6 hgrow6 hnil6; simp only [Nat.zero_add, List.nil_append] at own6)
      have b6 := below_grown (Below.refl _ _) hgrow6 (Nat.le_refl _)
      go_ret
      exact ⟨v6, rfl, b6, own6⟩
    · obtain ⟨K, hK⟩ : ∃ K, l.length = K + 32 := ⟨l.length - 32, by omega⟩
      have hl : lastS l = l.drop K := by unfold lastS; rw [show l.length - 32 = K by omega]
      have hdl : (l.drop K).length = 32 := by rw [List.length_drop]; omega
      rw [hl, hdl]
      have HDL := Lib.hid hdl
      have HK := Lib.hid hK
      obtain ⟨n, hn⟩ : ∃ n, l.length = n := ⟨_, rfl⟩
      rw [hn] at hlen hnc hK h32 ⊢
      clear hn hl hdl
      have hcK : ¬ c = K := by omega
      have h1 : ¬ (n : Int) ≤ 32 := by omega
      have hw : IntKind.i64.wrap ((n : Int) - 32) = (K : Int) := by rw [IntKind.wrap_i64]; omega
      have h3 : (0 : Int) ≤ (K : Int) := by omega
      have h4 : (K : Int) ≤ (n : Int) := by omega
      have HNK := Lib.hid (show n - K = 32 by omega)
      have HK2 := Lib.hid hK
      clear hK
      go_enter Try.func120, Try.ntmps120
      go_wp2_with (at_builtin; refine wpList_append_own _ rfl (.const (.slice none 0 0)) (.tmp 18) 72 rfl w.heap.size 80 i (.agg #[.int .u64 0, .int .u64 0]) 2 16 Try.underlying72 hi hzz hs hbb rfl (by decide) (.slice none 0 0) 0 [] rfl (World.ownsRow_nil _ _ _ _) ⟨g, o + K * 2, none⟩ (n - K) (c - K) (flatS (l.drop K)) rfl (by rw [flatS_len, HDL.out, HNK.out]) (HS.out.drop K).news (flatS_one _) (by simp [maxLen]; omega) (by omega) (Nat.le_refl _) ?_; intro v6 w6 own6 hgrow6 hnil6; simp only [Nat.zero_add, List.nil_append] at own6)
      have b6 := below_grown (Below.refl _ _) hgrow6 (Nat.le_refl _)
      go_ret
      rw [HNK.out] at own6
      exact ⟨v6, rfl, b6, own6⟩

/-- a row of small numbers -/
def U16Row (w : World) (a : Option Addr) (len : Nat) (z : Nat → Int) : Prop :=
  len = 0 ∨ ∃ b off, a = some ⟨b, off, none⟩ ∧ b < w.heap.size ∧ ∀ i, i < len → w.cell? ⟨b, off + i, none⟩ = some (.int .u16 (z i)) ∧ 0 ≤ z i ∧ z i ≤ 65535
theorem U16Row.below {w w' : World} {a : Option Addr} {len : Nat} {z : Nat → Int} (h : U16Row w a len z) (hb : Below w.heap.size w w') : U16Row w' a len z := by
  rcases h with h | ⟨b, off, h1, h2, h3⟩
  · exact .inl h
  · exact .inr ⟨b, off, h1, Nat.lt_of_lt_of_le h2 hb.size, fun i hi => by rw [hb.cell h2]; exact h3 i hi⟩
theorem U16Row.of {w : World} {a : Option Addr} {len cap : Nat} {zs : List Int} (h : IsRow .u16 w a len cap zs) : U16Row w a len (fun i => zs.getD i 0) ∧ len ≤ 9223372036854775807 := by
  rcases h.plain with rfl | ⟨h0, hm, b, off, rfl, hb, hcell, hwz⟩
  · exact ⟨.inl rfl, by omega⟩
  · unfold maxLen at hm
    exact ⟨.inr ⟨b, off, rfl, hb, fun i hi => ⟨hcell i hi, (wfU16 (hwz i hi)).1, (wfU16 (hwz i hi)).2⟩⟩, by omega⟩

theorem good204 : goodAll [(0, 204)] := by
  intro i hi
  have : i = 0 := by simp at hi; omega
  subst this
  exact ⟨⟨by simp, by simp⟩, fun h => by omega⟩
theorem in204 {a b : Int} (h : InR [(0, 204)] a b) : b ≤ 204 := by
  obtain ⟨i, hi, h1, h2⟩ := h
  have : i = 0 := by simp at hi; omega
  subst this
  exact h2

set_option maxHeartbeats 8000000 in
theorem gRowB (a : Option Addr) (len cap : Nat) (z : Nat → Int) (hl : len ≤ 9223372036854775807) (w : World) (hU : U16Row w a len z) :
    Calls Try.prog 82 #[.slice a len cap] w fun e w' => ∃ v r, e = .returned v ∧ Below w.heap.size w w' ∧ GoodL 0 r ∧ r.length ≤ 32 ∧ w'.ownsRow w.heap.size 80 2 v r.length (flatS r) ∧ (∀ s ∈ r, s.2 ≤ 204) := by
  have HU := Lib.hid hU
  clear hU
  have hlI : (len : Int) ≤ 9223372036854775807 := by omega
  go_enter Try.func82, Try.ntmps82
  go_wp2_with fail
  go_loopw [3, 4] (fun ov iv wr => ∃ (k : Nat) (ls : List (Int × Int)), iv = .int .i64 (k : Int) ∧ k ≤ 121 ∧ GoodL 0 ls ∧ (∀ s ∈ ls, InR [(0, 204)] s.1 s.2) ∧ ls.length ≤ k ∧ RowV wr ov ls ∧ Below w.heap.size w wr) (fun _ iv _ => (200 - intOf iv).toNat)
  case atStart => exact ⟨0, [], rfl, by omega, trivial, fun s hs => absurd hs (by simp), by simp, .inl ⟨rfl, rfl⟩, Below.refl _ _⟩
  case round =>
    obtain ⟨k, ls, rfl, hk, hgood, hin, hll, hrow, bel⟩ := hrel
    have HIN := Lib.hid hin
    have HG := Lib.hid hgood
    have HL := Lib.hid hll
    have HR := Lib.hid hrow
    have hk0 : (0 : Int) ≤ (k : Int) := by omega
    have sb := bel.size
    clear hgood hll hrow hin
    by_cases h1 : k + 1 < len
    · have h1' : (k : Int) + 1 < (len : Int) := by omega
      have h1d : decide ((k : Int) + 1 < (len : Int)) = true := decide_eq_true h1'
      by_cases h2 : k < 120
      · have h2' : (k : Int) < 120 := by omega
        have h2d : decide ((k : Int) < 120) = true := decide_eq_true h2'
        obtain ⟨b, off, rfl, hb, hc⟩ : ∃ b off, a = some ⟨b, off, none⟩ ∧ b < w.heap.size ∧ ∀ i, i < len → w.cell? ⟨b, off + i, none⟩ = some (.int .u16 (z i)) ∧ 0 ≤ z i ∧ z i ≤ 65535 := by
          rcases HU.out with h | h
          · omega
          · exact h
        obtain ⟨c0, zl, zh⟩ := hc k (by omega)
        obtain ⟨c1, yl, yh⟩ := hc (k + 1) h1
        have c0 : wr.cell? ⟨b, off + k, none⟩ = some (.int .u16 (z k)) := by rw [bel.cell hb]; exact c0
        have c1 : wr.cell? ⟨b, off + (k + 1), none⟩ = some (.int .u16 (z (k + 1))) := by rw [bel.cell hb]; exact c1
        obtain ⟨lo, hlo⟩ : ∃ n, n = (z k).tmod 200 := ⟨_, rfl⟩
        obtain ⟨d, hd⟩ : ∃ n, n = (z (k + 1)).tmod 6 := ⟨_, rfl⟩
        have q1 : 0 ≤ lo ∧ lo ≤ 199 := by rw [hlo, Int.tmod_eq_emod_of_nonneg zl]; omega
        have q2 : 0 ≤ d ∧ d ≤ 5 := by rw [hd, Int.tmod_eq_emod_of_nonneg yl]; omega
        have w1 : IntKind.u16.wrap ((z k).tmod 200) = lo := by rw [← hlo, IntKind.wrap_u16]; omega
        have w2 : IntKind.u16.wrap ((z (k + 1)).tmod 6) = d := by rw [← hd, IntKind.wrap_u16]; omega
        have w3 : IntKind.u64.wrap lo = lo := by rw [IntKind.wrap_u64]; omega
        have w4 : IntKind.u64.wrap d = d := by rw [IntKind.wrap_u64]; omega
        have w5 : IntKind.u64.wrap (lo + d) = lo + d := by rw [IntKind.wrap_u64]; omega
        have w6 : (z k).tmod 200 = lo := hlo.symm
        have w7 : (z (k + 1)).tmod 6 = d := hd.symm
        clear hlo hd hc
        go_wp2_with fail
        refine (rAddSpan u3 ls lo (lo + d) HG.out (by have := HL.out; omega) (by omega) (by omega) (by omega) _ HR.out).mono ?_; rintro e' w3 ⟨v3, rfl, b3, own3⟩
        have R3 := RowV.ofOwn own3
        go_wp2_with fail
        go_roundw
        case rel => exact ⟨k + 2, addS ls lo (lo + d), by congr 1, by omega, addS_good ls lo (lo + d) 0 HG.out (by omega) (by omega) (by omega), addS_in [(0, 204)] good204 ls lo (lo + d) 0 HG.out HIN.out ⟨0, by simp, by simp; omega, by simp; omega⟩ (by omega), by have := (addS_len ls lo (lo + d)).2; have := HL.out; omega, R3, bel.trans (b3.mono sb)⟩
        case measure => simp only [intOf]; omega
      · have h2d : decide ((k : Int) < 120) = false := decide_eq_false (by omega)
        go_wp2_with fail
        refine (rLastSpans u3 ls (by have := HL.out; omega) _ HR.out).mono ?_; rintro e' w3 ⟨v3, rfl, b3, own3⟩
        have R3 := RowV.ofOwn own3
        go_wp2_with fail
        go_ret
        exact ⟨v3, lastS ls, rfl, bel.trans (b3.mono sb), lastS_good HG.out, (lastS_len ls).1, own_base own3 sb, fun s hs => in204 (HIN.out s (lastS_mem hs))⟩
    · have h1d : decide ((k : Int) + 1 < (len : Int)) = false := decide_eq_false (by omega)
      go_wp2_with fail
      refine (rLastSpans u3 ls (by have := HL.out; omega) _ HR.out).mono ?_; rintro e' w3 ⟨v3, rfl, b3, own3⟩
      have R3 := RowV.ofOwn own3
      go_wp2_with fail
      go_ret
      exact ⟨v3, lastS ls, rfl, bel.trans (b3.mono sb), lastS_good HG.out, (lastS_len ls).1, own_base own3 sb, fun s hs => in204 (HIN.out s (lastS_mem hs))⟩

theorem gRow (a : Option Addr) (len cap : Nat) (z : Nat → Int) (hl : len ≤ 9223372036854775807) (w : World) (hU : U16Row w a len z) :
    Calls Try.prog 82 #[.slice a len cap] w fun e w' => ∃ v r, e = .returned v ∧ Below w.heap.size w w' ∧ GoodL 0 r ∧ r.length ≤ 32 ∧ w'.ownsRow w.heap.size 80 2 v r.length (flatS r) :=
  (gRowB a len cap z hl w hU).mono fun _ _ ⟨v, r, h1, h2, h3, h4, h5, _⟩ => ⟨v, r, h1, h2, h3, h4, h5⟩

set_option maxHeartbeats 8000000 in
theorem gPart (va vb : Value) (la lb : List (Int × Int)) (hga : GoodL 0 la) (hgb : GoodL 0 lb) (hla : la.length ≤ 32) (hlb : lb.length ≤ 32) (w : World) (hA : RowV w va la) (hB : RowV w vb lb) :
    Calls Try.prog 83 #[va, vb] w fun e w' => ∃ v r, e = .returned v ∧ Below w.heap.size w w' ∧ GoodL 0 r ∧ r.length ≤ 32 ∧ insideAll r lb ∧ w'.ownsRow w.heap.size 80 2 v r.length (flatS r) := by
  obtain ⟨gB, _, _⟩ := goodL_all lb 0 (by omega) hgb
  obtain ⟨xa, ca, rfl, SA⟩ := hA.form
  obtain ⟨xb, cb, rfl, SB⟩ := hB.form
  have GB := Lib.hid gB
  have HGA := Lib.hid (good_tail la 0 hga)
  have HGB := Lib.hid (good_tail lb 0 hgb)
  have HSA := Lib.hid SA
  have HSB := Lib.hid SB
  obtain ⟨na, hna⟩ : ∃ n, la.length = n := ⟨_, rfl⟩
  obtain ⟨nb, hnb⟩ : ∃ n, lb.length = n := ⟨_, rfl⟩
  have HNA := Lib.hid hna
  have HNB := Lib.hid hnb
  rw [hna] at hla ⊢
  rw [hnb] at hlb ⊢
  clear hA hB SA SB gB hga hgb hna hnb
  have hnaI : (na : Int) ≤ 32 := by omega
  have hnbI : (nb : Int) ≤ 32 := by omega
  go_enter Try.func83, Try.ntmps83
  go_wp2_with fail
  go_loopw [5, 6] (fun ov iv wr => ∃ (k : Nat) (ls : List (Int × Int)), iv = .int .i64 (k : Int) ∧ k ≤ na ∧ GoodL 0 ls ∧ ls.length ≤ k * 32 ∧ (∀ s ∈ ls, InR lb s.1 s.2) ∧ RowV wr ov ls ∧ Below w.heap.size w wr) (fun _ iv _ => (na - intOf iv).toNat)
  case atStart => exact ⟨0, [], rfl, by omega, trivial, by simp, fun s hs => absurd hs (by simp), .inl ⟨rfl, rfl⟩, Below.refl _ _⟩
  case round =>
    obtain ⟨k, ls, rfl, hk, hgood, hll, hin, hrow, bel⟩ := hrel
    have HG := Lib.hid hgood
    have HL := Lib.hid hll
    have HI := Lib.hid hin
    have HR := Lib.hid hrow
    have hk0 : (0 : Int) ≤ (k : Int) := by omega
    have sb := bel.size
    clear hgood hll hrow hin
    by_cases hlt : k < na
    · have hlt' : (k : Int) < (na : Int) := by omega
      obtain ⟨ga, oa, rfl, hga, c0, c1⟩ := HSA.out.at k (by rw [HNA.out]; exact hlt)
      obtain ⟨alo, ahi, hsa⟩ : ∃ lo hi, la.getD k (0, 0) = (lo, hi) := ⟨_, _, rfl⟩
      have hma : (alo, ahi) ∈ la := by
        rw [← hsa, List.getD_eq_getElem?_getD, List.getElem?_eq_getElem (by rw [HNA.out]; exact hlt)]
        exact List.getElem_mem _
      rw [hsa] at c0 c1
      obtain ⟨qa1, qa2, qa3⟩ := HGA.out _ hma
      simp only at qa1 qa2 qa3
      have C0 := Lib.hid c0
      have C1 := Lib.hid c1
      clear hsa hma c0 c1
      go_wp2_with fail
      go_loopw [5, 7] (fun ov iv wi => ∃ (j : Nat) (ms : List (Int × Int)), iv = .int .i64 (j : Int) ∧ j ≤ nb ∧ GoodL 0 ms ∧ ms.length ≤ k * 32 + j ∧ (∀ s ∈ ms, InR lb s.1 s.2) ∧ RowV wi ov ms ∧ Below w.heap.size w wi) (fun _ iv _ => (nb - intOf iv).toNat)
      case atStart => exact ⟨0, ls, rfl, by omega, HG.out, HL.out, HI.out, HR.out, bel⟩
      case round =>
        obtain ⟨j, ms, rfl, hj, hgood, hll, hin, hrow, bel2⟩ := hrel
        have HG2 := Lib.hid hgood
        have HL2 := Lib.hid hll
        have HI2 := Lib.hid hin
        have HR2 := Lib.hid hrow
        have hj0 : (0 : Int) ≤ (j : Int) := by omega
        have sb2 := bel2.size
        clear hgood hll hrow hin
        by_cases hjt : j < nb
        · have hjt' : (j : Int) < (nb : Int) := by omega
          obtain ⟨gb, ob, hxb, hgb, d0, d1⟩ := HSB.out.at j (by rw [HNB.out]; exact hjt)
          obtain ⟨blo, bhi, hsb⟩ : ∃ lo hi, lb.getD j (0, 0) = (lo, hi) := ⟨_, _, rfl⟩
          have hmb : (blo, bhi) ∈ lb := by
            rw [← hsb, List.getD_eq_getElem?_getD, List.getElem?_eq_getElem (by rw [HNB.out]; exact hjt)]
            exact List.getElem_mem _
          have HSJ := Lib.hid hsb
          rw [hsb] at d0 d1
          obtain ⟨qb1, qb2, qb3⟩ := HGB.out _ hmb
          simp only at qb1 qb2 qb3
          have e0 : wr.cell? ⟨ga, oa + k * 2, none⟩ = some (.int .u64 alo) := by rw [bel2.cell hga]; exact C0.out
          have e1 : wr.cell? ⟨ga, oa + k * 2 + 1, none⟩ = some (.int .u64 ahi) := by rw [bel2.cell hga]; exact C1.out
          have f0 : wr.cell? ⟨gb, ob + j * 2, none⟩ = some (.int .u64 blo) := by rw [bel2.cell hgb]; exact d0
          have f1 : wr.cell? ⟨gb, ob + j * 2 + 1, none⟩ = some (.int .u64 bhi) := by rw [bel2.cell hgb]; exact d1
          have HXB := Lib.hid hxb
          have hgb2 : gb < wr.heap.size := by omega
          have hga2 : ga < wr.heap.size := by omega
          rw [hxb]
          clear hsb hmb d0 d1 hxb
          go_wp2_with fail
          go_region
          obtain ⟨A, hA⟩ : ∃ A, A = max alo blo := ⟨_, rfl⟩
          obtain ⟨B, hB⟩ : ∃ B, B = min ahi bhi := ⟨_, rfl⟩
          rw [← hA, ← hB]
          have a1 : alo ≤ A ∧ blo ≤ A := by omega
          have a2 : B ≤ ahi ∧ B ≤ bhi := by omega
          clear hA hB
          obtain ⟨P, hP⟩ : ∃ P, P = wr.heap.size := ⟨_, rfl⟩
          obtain ⟨w4, hw4⟩ : ∃ w4, w4 = (wr.alloc (.cells #[.int .u64 A, .int .u64 B] 80 (0, 0))).drew := ⟨_, rfl⟩
          have X4 : BoxAt w4 P A B := by rw [hw4, hP]; exact heap_alloc_new wr _
          have b4 : Below wr.heap.size wr w4 := by rw [hw4]; exact ((Below.refl _ _).alloc (Nat.le_refl _) _).trans ((belDrew _).mono (by simp))
          rw [← hw4, ← hP]
          have b04 := bel2.trans (b4.mono sb2)
          have HR4 := Lib.hid (HR2.out.below b4)
          clear hw4 hP e0 e1 f0 f1 hgb2 hga2 b4
          obtain ⟨⟨p0, p1⟩, _⟩ := X4.cells
          by_cases hle : A ≤ B
          · have hdl : decide (A ≤ B) = true := decide_eq_true hle
            go_wp2_with fail
            refine (rAddSpan u5 ms A B HG2.out (by have := HL2.out; omega) (by omega) hle (by omega) _ HR4.out).mono ?_; rintro e' w5 ⟨v5, rfl, b5, own5⟩
            have R5 := RowV.ofOwn own5
            go_wp2_with fail
            go_roundw
            case rel => exact ⟨j + 1, addS ms A B, by congr 1, by omega, addS_good ms A B 0 HG2.out (by omega) hle (by omega), by have := (addS_len ms A B).2; have := HL2.out; omega, addS_in lb GB.out ms A B 0 HG2.out HI2.out ⟨j, by rw [HNB.out]; exact hjt, by rw [HSJ.out]; exact a1.2, by rw [HSJ.out]; exact a2.2⟩ hle, R5, b04.trans (b5.mono b04.size)⟩
            case measure => simp only [intOf]; omega
          · have hdl : decide (A ≤ B) = false := decide_eq_false hle
            go_wp2_with fail
            go_roundw
            case rel => exact ⟨j + 1, ms, by congr 1, by omega, HG2.out, by have := HL2.out; omega, HI2.out, HR4.out, b04⟩
            case measure => simp only [intOf]; omega
        · have hjn : j = nb := by omega
          subst hjn
          have hd : decide ((j : Int) < (j : Int)) = false := by simp
          go_wp2_with fail
          go_roundw
          case rel => exact ⟨k + 1, ms, by congr 1, by omega, HG2.out, by have := HL2.out; omega, HI2.out, HR2.out, bel2⟩
          case measure => simp only [intOf]; omega
    · have hkn : k = na := by omega
      subst hkn
      have hd : decide ((k : Int) < (k : Int)) = false := by simp
      go_wp2_with fail
      refine (rLastSpans u5 ls (by have := HL.out; omega) _ HR.out).mono ?_; rintro e' w3 ⟨v3, rfl, b3, own3⟩
      have R3 := RowV.ofOwn own3
      go_wp2_with fail
      go_ret
      exact ⟨v3, lastS ls, rfl, bel.trans (b3.mono sb), lastS_good HG.out, (lastS_len ls).1, insideAll_of (fun s hs => HI.out s (lastS_mem hs)), own_base own3 sb⟩

set_option maxHeartbeats 4000000 in
theorem gAckB (a b : Option Addr) (la ca lb cb : Nat) (z y : Nat → Int) (hla : la ≤ 9223372036854775807) (hlb : lb ≤ 9223372036854775807) (t r : Int) (p : Bool) (ht : W64 t) (hr : W64 r) (w : World) (hA : U16Row w a la z) (hB : U16Row w b lb y) :
    Calls Try.prog 42 #[.slice a la ca, .slice b lb cb, .int .u64 t, .int .u64 r, .bool p] w fun e w' => ∃ (d : AckD) (v u : Value) (ok : Bool), e = .returned (.tuple #[ackV d v u, .bool ok]) ∧ Below w.heap.size w w' ∧ (ok = true → MayA d) ∧ d.spans.length ≤ 32 ∧ d.marked.length ≤ 32 ∧ RowV w' v d.spans ∧ RowV w' u d.marked ∧ (∀ s ∈ d.spans, s.2 ≤ 204) := by
  have HT := Lib.hid ht
  have HR := Lib.hid hr
  have HA := Lib.hid hA
  have HB := Lib.hid hB
  clear ht hr hA hB
  go_enter Try.func42, Try.ntmps42
  go_wp2_with fail
  obtain ⟨w0, hw0⟩ : ∃ w0, w0 = w.alloc (.cells #[.slice none 0 0, .slice none 0 0, .int .u64 0, .int .u64 0, .bool false] 74 (0, 0)) := ⟨_, rfl⟩
  have b00 : Below w.heap.size w w0 := by rw [hw0]; exact (Below.refl _ _).alloc (Nat.le_refl _) _
  have D0 : AckAt w0 w.heap.size (.slice none 0 0) (.slice none 0 0) (.int .u64 0) (.int .u64 0) (.bool false) := by rw [hw0]; exact AckAt.alloc w _ _ _ _ _
  rw [← hw0]
  clear hw0
  refine (gRowB a la ca z hla _ (HA.out.below b00)).mono ?_; rintro e' w1 ⟨v1, s, rfl, b1, gs, ls, own1, bd1⟩
  have HBD := Lib.hid bd1
  clear bd1
  have R1 := RowV.ofOwn own1
  have hB0 := D0.lt
  have b01 := b00.trans (b1.mono b00.size)
  have D1 := D0.belowB D0.lt b1
  obtain ⟨x1, c1, hv1, _⟩ := R1.form
  subst hv1
  clear D0 b1 b00
  have OWN1 := Lib.hid own1
  have GS := Lib.hid gs
  obtain ⟨n, hn⟩ : ∃ n, s.length = n := ⟨_, rfl⟩
  have HN := Lib.hid hn
  obtain ⟨⟨d0, d1, d2, d3, d4⟩, fz⟩ := D1.cells
  have y0 := fz 0
  have y1 := fz 1
  have y2 := fz 2
  have y3 := fz 3
  have y4 := fz 4
  clear fz R1 gs own1
  by_cases h0 : n = 0
  · have hz : (s.length : Int) = 0 := by omega
    rw [hn]
    subst h0
    go_wp2_with fail
    refine bodyPost_ret (v := .tuple #[.agg #[.slice none 0 0, .slice none 0 0, .int .u64 0, .int .u64 0, .bool false], .bool false]) (by simp [results, Try.results42, go_sem, d0, d1, d2, d3, d4]) rfl ⟨zeroA, .slice none 0 0, .slice none 0 0, false, rfl, by repeat (first | with_reducible exact b01 | with_reducible refine Below.setCell ?_ (by first | (simp; done) | (simp; omega) | omega) _), fun h => by simp at h, by simp [zeroA], by simp [zeroA], .inl ⟨rfl, rfl⟩, .inl ⟨rfl, rfl⟩, fun s hs => absurd hs (by simp [zeroA])⟩
  · rw [hn] at ls ⊢
    have hne : ((n : Int) == 0) = false := by rw [beq_eq_false_iff_ne]; omega
    have HW1 := Lib.hid (HB.out.below b01)
    clear hn
    go_wp2_with fail
    refine (gRow b lb cb y hlb _ HW1.out).mono ?_; rintro e' w2 ⟨v2, m, rfl, b2, gm, lm, own2⟩
    have R2 := RowV.ofOwn own2
    have OWN12 := own_below OWN1.out b2
    have R12 := RowV.ofOwn OWN12
    have D2 := D1.belowB D1.lt b2
    have b02 := b01.trans (b2.mono b01.size)
    clear d0 d1 d2 d3 d4 y0 y1 y2 y3 y4 D1 b2
    have GP := gPart v2 (.slice x1 s.length c1) m s gm GS.out lm (by rw [HN.out]; exact ls) w2 R2 R12
    rw [HN.out] at GP
    go_wp2_with fail
    refine GP.mono ?_; rintro e' w3 ⟨v3, q, rfl, b3, gq, lq, iq, own3⟩
    have R3 := RowV.ofOwn own3
    have own13 := own_below OWN12 b3
    have s02 := b02.size
    have hB2 : w.heap.size < w2.heap.size := D2.lt
    have D3 := D2.belowB D2.lt b3
    have b03 := b02.trans (b3.mono b02.size)
    obtain ⟨x3, c3, hv3, _⟩ := R3.form
    subst hv3
    obtain ⟨⟨d0, d1, d2, d3, d4⟩, fz⟩ := D3.cells
    have y0 := fz 0
    have y1 := fz 1
    have y2 := fz 2
    have y3 := fz 3
    have y4 := fz 4
    clear fz GP D2 b3 b02
    have lD := D3.lt
    go_wp2_with fail
    obtain ⟨w4, hw4⟩ : ∃ w4, w4 = ((((w3.setCell ⟨w.heap.size, 0, none⟩ (.slice x1 n c1)).setCell ⟨w.heap.size, 1, none⟩ (.slice x3 q.length c3)).setCell ⟨w.heap.size, 2, none⟩ (.int .u64 t)).setCell ⟨w.heap.size, 3, none⟩ (.int .u64 r)).setCell ⟨w.heap.size, 4, none⟩ (.bool p) := ⟨_, rfl⟩
    have k4 : Kept w.heap.size w3 w4 := fun i hi hl => by rw [hw4, kept_set _ _ _ _ hi, kept_set _ _ _ _ hi, kept_set _ _ _ _ hi, kept_set _ _ _ _ hi, kept_set _ _ _ _ hi]
    have A4 : AckAt w4 w.heap.size (.slice x1 n c1) (.slice x3 q.length c3) (.int .u64 t) (.int .u64 r) (.bool p) := by rw [hw4]; exact heap_set_self _ _ _ _ _ _ _ (heap_set_self _ _ _ _ _ _ _ (heap_set_self _ _ _ _ _ _ _ (heap_set_self _ _ _ _ _ _ _ (heap_set_self _ _ _ _ _ _ _ D3))))
    have b04 : Below w.heap.size w w4 := by rw [hw4]; repeat (first | with_reducible exact b03 | with_reducible refine Below.setCell ?_ (by first | (simp; done) | (simp; omega) | omega) _)
    have P1 := RowV.ofOwn (ownKept own13 hB0 k4)
    have P3 := RowV.ofOwn (ownKept own3 hB2 k4)
    rw [HN.out] at P1
    rw [← hw4]
    clear hw4 d0 d1 d2 d3 d4 y0 y1 y2 y3 y4 D3
    obtain ⟨a0, a1, a2, a3, a4⟩ := A4.cells.1
    have hm : MayA ⟨s, q, t, r, p⟩ := ⟨GS.out, gq, ⟨by simp only; rw [HN.out]; omega, by simp only; rw [HN.out]; exact ls⟩, lq, iq, HT.out, HR.out⟩
    refine bodyPost_ret (v := .tuple #[.agg #[.slice x1 n c1, .slice x3 q.length c3, .int .u64 t, .int .u64 r, .bool p], .bool true]) (by simp [results, Try.results42, go_sem, a0, a1, a2, a3, a4]) rfl ⟨⟨s, q, t, r, p⟩, .slice x1 n c1, .slice x3 q.length c3, true, rfl, b04, fun _ => hm, by simp only; rw [HN.out]; exact ls, lq, P1, P3, HBD.out⟩

theorem gAck (a b : Option Addr) (la ca lb cb : Nat) (z y : Nat → Int) (hla : la ≤ 9223372036854775807) (hlb : lb ≤ 9223372036854775807) (t r : Int) (p : Bool) (ht : W64 t) (hr : W64 r) (w : World) (hA : U16Row w a la z) (hB : U16Row w b lb y) :
    Calls Try.prog 42 #[.slice a la ca, .slice b lb cb, .int .u64 t, .int .u64 r, .bool p] w fun e w' => ∃ (d : AckD) (v u : Value) (ok : Bool), e = .returned (.tuple #[ackV d v u, .bool ok]) ∧ Below w.heap.size w w' ∧ (ok = true → MayA d) ∧ d.spans.length ≤ 32 ∧ d.marked.length ≤ 32 ∧ RowV w' v d.spans ∧ RowV w' u d.marked :=
  (gAckB a b la ca lb cb z y hla hlb t r p ht hr w hA hB).mono fun _ _ ⟨d, v, u, ok, h1, h2, h3, h4, h5, h6, h7, _⟩ => ⟨d, v, u, ok, h1, h2, h3, h4, h5, h6, h7⟩

end Go.Proofs.Ytikkmdbaekdolaa

