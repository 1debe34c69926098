/- package ack: a row of spans that is read. -/
import Derived.Test.YtofggpmllfhgaaaAckIs
import Derived.Test.YtofggpmllfhgaaaAckOne
namespace Go.Proofs.Ytofggpmllfhgaaa
open Go.RowKit Go.Lib
set_option linter.unusedVariables false
set_option maxRecDepth 100000

/-- a row's cells -/
def flatS (l : List (Int × Int)) : List Value := l.flatMap fun s => [.int .u64 s.1, .int .u64 s.2]
theorem flatS_append (l k : List (Int × Int)) : flatS (l ++ k) = flatS l ++ flatS k := by simp [flatS]

/-- a row of at least so many -/
def getRowF (least : Int) : List Int → Int × List (Int × Int) × List Int
  | [] => (2, [], [])
  | n :: zs => if n < least ∨ 32 < n then (5, [], []) else rowF 0 n.toNat zs

structure SpansR (w0 : World) (p : Nat) (E : Int) (l : List (Int × Int)) (rest : List Int) (n : Nat) (v : Value) (low : Int) (k : Nat) (wr : World) : Prop where
  hl : ∃ (ls l' : List (Int × Int)) (zs rest' : List Int), ls.length = k ∧ rowF low (n - k) zs = (E, l', rest') ∧ (E = 0 → ls ++ l' = l ∧ rest' = rest) ∧ (∀ x ∈ zs, 0 ≤ x ∧ x ≤ 255) ∧ zs.length ≤ 140737488351232 ∧ RdAt wr p zs ∧ wr.ownsRow w0.heap.size 84 2 v k (flatS ls)
  low : 0 ≤ low ∧ low ≤ 4611686018427387905
  bel : Below p w0 wr
  kept : Kept p w0 wr

theorem Kept.trans {p : Nat} {a b c : World} (h : Kept p a b) (k : Kept p b c) (hs : a.heap.size ≤ b.heap.size) : Kept p a c := fun i hi hl => by rw [k i hi (by omega), h i hi hl]
theorem Kept.of_below {p : Nat} {a b : World} (h : Below a.heap.size a b) : Kept p a b := fun i _ hl => h.block i hl
theorem Kept.grown {p B : Nat} {a b : World} {row : Option Nat} (h : a.grownBy b row) (hB : B ≤ a.heap.size) (hr : ∀ k, row = some k → B ≤ k) : ∀ i, i < B → b.heap[i]? = a.heap[i]? := fun i hi => h.block i (by omega) (fun e => by have := hr i e.symm; omega)
theorem ownKept {p B n s : Nat} {w w' : World} {e : TypeId} {v : Value} {xs : List Value} (h : w.ownsRow B e s v n xs) (hp : p < B) (k : Kept p w w') : w'.ownsRow B e s v n xs := by
  obtain ⟨h1, h2 | ⟨g, c, cur, h3, h4, h5, h6⟩⟩ := h
  · exact ⟨h1, .inl h2⟩
  · exact ⟨h1, .inr ⟨g, c, cur, h3, h4, by rw [k g (by omega) (Array.getElem?_eq_some_iff.1 h5).1]; exact h5, h6⟩⟩

theorem news2 (W : World) (v u : Value) (t : TypeId) : ∀ (j : Nat) (x : Value), [v, u][j]? = some x → (W.alloc (.cells #[v, u] t)).cell? ((⟨W.heap.size, 0, none⟩ : Addr).add j) = some x := by
  intro j x hx
  rw [addr_add, cell_of_row _ _ _ _ _ _ (heap_alloc_new W _)]
  rcases j with _ | _ | j
  · simpa using hx
  · simpa using hx
  · simp at hx
theorem two2 (a c : Int) : ∀ x ∈ [Value.int .u64 a, .int .u64 c], x.oneCell' = true := by
  intro x hx
  simp at hx
  rcases hx with rfl | rfl <;> rfl

set_option maxHeartbeats 8000000 in
set_option maxRecDepth 100000 in
theorem aSpans (p : Nat) (least : Int) (hle : 0 ≤ least ∧ least ≤ 1) (zs0 : List Int) (hz : ∀ x ∈ zs0, 0 ≤ x ∧ x ≤ 255) (hlen : zs0.length ≤ 140737488351232) (E : Int) (l : List (Int × Int)) (rest : List Int) (hG : getRowF least zs0 = (E, l, rest)) (w : World) (hr : RdAt w p zs0) :
    Calls Try.prog 56 #[.pointer (some ⟨p, 0, none⟩), .int .i64 least] w fun e w' => ∃ v, e = .returned (.tuple #[v, .int .i64 E]) ∧ Below p w w' ∧ Kept p w w' ∧ (E ≠ 0 → v = .slice none 0 0) ∧ (E = 0 → RdAt w' p rest ∧ w'.ownsRow w.heap.size 84 2 v l.length (flatS l)) := by
  obtain ⟨i, hi, hzz, hs, hbb⟩ := info_parts (P := Try.prog) (e := 84) (z := .agg #[.int .u64 0, .int .u64 0]) (size := 2) (bytes := 16) (by kernel_rfl)
  have hpw := hr.1
  go_enter Try.func56, Try.ntmps56
  go_wp2_with fail
  rcases zs0 with _ | ⟨n, zs⟩
  · rw [getRowF, Prod.mk.injEq, Prod.mk.injEq] at hG
    obtain ⟨rfl, rfl, rfl⟩ := hG
    refine (takeShort [] 1 (by simp) _ p hr).mono ?_; rintro e' w' ⟨rfl, rfl⟩
    go_wp2_with fail
    exact bodyPost_ret (v := .tuple #[.slice none 0 0, .int .i64 2]) (by simp [results, Try.results56, go_sem]) rfl ⟨.slice none 0 0, rfl, Below.refl _ _, fun _ _ _ => rfl, fun _ => rfl, fun h => by simp at h⟩
  have hn := hz n (by simp)
  have hzs : ∀ x ∈ zs, 0 ≤ x ∧ x ≤ 255 := fun x hx => hz x (by simp [hx])
  simp only [List.length_cons] at hlen
  refine (takeHere (n :: zs) 1 (by omega) (by simp) (by simp only [List.length_cons]; omega) _ p hr).mono ?_; rintro e' w2 ⟨q, c, rfl, BQ, b02, R2, K2, _⟩
  have R2 : RdAt w2 p zs := R2
  have ck : w2.cell? ⟨q, 0, none⟩ = some (.int .u8 n) := by simpa using BQ.at 0 n rfl
  have HZ := Lib.hid hzs
  clear BQ hr hz hzs
  rw [getRowF] at hG
  by_cases hx : n < least ∨ 32 < n
  · rw [if_pos hx, Prod.mk.injEq, Prod.mk.injEq] at hG
    obtain ⟨rfl, rfl, rfl⟩ := hG
    rcases (by omega : n < least ∨ (least ≤ n ∧ 32 < n)) with h | ⟨h, h'⟩
    · go_wp2_with fail
      exact bodyPost_ret (v := .tuple #[.slice none 0 0, .int .i64 5]) (by simp [results, Try.results56, go_sem]) rfl ⟨.slice none 0 0, rfl, b02, K2, fun _ => rfl, fun h => by simp at h⟩
    · go_wp2_with fail
      exact bodyPost_ret (v := .tuple #[.slice none 0 0, .int .i64 5]) (by simp [results, Try.results56, go_sem]) rfl ⟨.slice none 0 0, rfl, b02, K2, fun _ => rfl, fun h => by simp at h⟩
  rw [if_neg hx] at hG
  obtain ⟨n, rfl⟩ : ∃ m : Nat, n = (m : Int) := ⟨n.toNat, by omega⟩
  rw [Int.toNat_natCast] at hG
  have h1 : least ≤ (n : Int) := by omega
  have h2 : (n : Int) ≤ 32 := by omega
  have HG := Lib.hid hG
  clear hx hG
  go_wp2_with fail
  go_loopw [9, 10, 35] (fun v lowv i wr => ∃ (k : Nat) (low : Int), i = .int .i64 (k : Int) ∧ lowv = .int .u64 low ∧ k ≤ n ∧ SpansR w p E l rest n v low k wr) (fun _ _ i _ => (n - intOf i).toNat)
  case atStart =>
    exact ⟨0, 0, rfl, rfl, by omega, ⟨[], l, zs, rest, rfl, HG.out, fun _ => ⟨rfl, rfl⟩, HZ.out, by omega, R2, World.ownsRow_nil _ _ _ _⟩, by omega, b02, K2⟩
  case round =>
    obtain ⟨k, low, rfl, rfl, hk, ⟨ls, l', zk, rest', hlk, hrow, hE, hzk, hzl, R, own⟩, hlow, bel, kept⟩ := hrel
    have hk0 : (0 : Int) ≤ (k : Int) := by omega
    have HE := Lib.hid hE
    have HLK := Lib.hid hlk
    have OWN := Lib.hid own
    have KEPT := Lib.hid kept
    clear hE hlk own kept ck R2 K2 b02
    by_cases hlt : k < n
    · have hlt' : (k : Int) < (n : Int) := by omega
      obtain ⟨m, hm⟩ : ∃ m, n - k = m + 1 := ⟨n - k - 1, by omega⟩
      rw [hm, rowF_succ] at hrow
      obtain ⟨hH, hK⟩ := numHere zk hzk hzl
      go_wp2_with fail
      refine (hH _ p R).mono ?_; rintro e' w4 ⟨rfl, b4, R4, K4⟩
      have b04 := bel.trans b4
      have sb := bel.size
      have k04 := KEPT.out.trans K4 sb
      have own4 := ownKept OWN.out (by exact hpw) K4
      have z4 := byte_drop hzk (numF zk).2.1
      have l4 : (zk.drop (numF zk).2.1).length ≤ 140737488351232 := by rw [List.length_drop]; omega
      have hZ := numF_zero zk hzk
      have OWN4 := Lib.hid own4
      have KEPT4 := Lib.hid k04
      clear own4 k04 hH R hK b4 K4 OWN KEPT hzk hzl
      by_cases e1 : (numF zk).2.2 = 0
      case neg =>
        have hO : oneF low zk = ((numF zk).2.2, (0, 0), []) := by rw [oneF, if_neg e1]
        rw [hO] at hrow
        simp only at hrow
        rw [if_neg e1, Prod.mk.injEq, Prod.mk.injEq] at hrow
        obtain ⟨hE', _, _⟩ := hrow
        have hd : (E != 0) = true := by rw [bne_iff_ne, ← hE']; exact e1
        have hne : E ≠ 0 := by rw [← hE']; exact e1
        rw [hE']
        clear hO hZ z4 l4
        generalize (numF zk).1 = nn at *
        go_wp2_with fail
        exact bodyPost_ret (v := .tuple #[.slice none 0 0, .int .i64 E]) (by simp [results, Try.results56, go_sem]) rfl ⟨.slice none 0 0, rfl, b04, KEPT4.out, fun _ => rfl, fun h => absurd h hne⟩
      rw [e1]
      have hb1 := (hZ e1).1
      obtain ⟨a1, ha1⟩ : ∃ a, a = (numF zk).1 := ⟨_, rfl⟩
      rw [← ha1] at hb1 ⊢
      have HA1 := Lib.hid ha1
      obtain ⟨zq, hzq⟩ : ∃ z, z = zk.drop (numF zk).2.1 := ⟨_, rfl⟩
      rw [← hzq] at R4 z4 l4
      have HZQ := Lib.hid hzq
      clear ha1 hzq hZ
      by_cases g1 : 4611686018427387903 < low ∨ 4611686018427387903 - low < a1
      case pos =>
        have hO : oneF low zk = (5, (0, 0), []) := by rw [oneF, if_pos e1, if_pos (by rw [← HA1.out]; exact g1)]
        rw [hO] at hrow
        simp only at hrow
        rw [if_neg (by decide), Prod.mk.injEq, Prod.mk.injEq] at hrow
        obtain ⟨rfl, _, _⟩ := hrow
        rcases (by omega : 4611686018427387903 < low ∨ (low ≤ 4611686018427387903 ∧ 4611686018427387903 - low < a1)) with h | ⟨h, h'⟩
        · go_wp2_with fail
          exact bodyPost_ret (v := .tuple #[.slice none 0 0, .int .i64 5]) (by simp [results, Try.results56, go_sem]) rfl ⟨.slice none 0 0, rfl, b04, KEPT4.out, fun _ => rfl, fun h => by simp at h⟩
        · go_wp2_with fail
          exact bodyPost_ret (v := .tuple #[.slice none 0 0, .int .i64 5]) (by simp [results, Try.results56, go_sem]) rfl ⟨.slice none 0 0, rfl, b04, KEPT4.out, fun _ => rfl, fun h => by simp at h⟩
      have f1 : low ≤ 4611686018427387903 := by omega
      have f2 : a1 ≤ 4611686018427387903 - low := by omega
      have f3 : ¬ 4611686018427387903 < low := by omega
      have f4 : ¬ 4611686018427387903 - low < a1 := by omega
      obtain ⟨hH2, hK2⟩ := numHere zq z4 l4
      have hZ2 := numF_zero zq z4
      go_wp2_with fail
      refine (hH2 _ p R4).mono ?_; rintro e' w5 ⟨rfl, b5, R5, K5⟩
      have b05 := b04.trans b5
      have sb4 := b04.size
      have k05 := KEPT4.out.trans K5 sb4
      have own5 := ownKept OWN4.out (by exact hpw) K5
      have sb5 := b05.size
      have z5 := byte_drop z4 (numF zq).2.1
      have l5 : (zq.drop (numF zq).2.1).length ≤ 140737488351232 := by rw [List.length_drop]; omega
      have OWN5 := Lib.hid own5
      have KEPT5 := Lib.hid k05
      clear own5 k05 hH2 R4 hK2 b5 K5 OWN4 KEPT4 z4 l4 b04
      by_cases e2 : (numF zq).2.2 = 0
      case neg =>
        have hO : oneF low zk = ((numF zq).2.2, (0, 0), []) := by rw [oneF, if_pos e1, if_neg (by rw [← HA1.out]; exact g1), ← HZQ.out, if_neg e2]
        rw [hO] at hrow
        simp only at hrow
        rw [if_neg e2, Prod.mk.injEq, Prod.mk.injEq] at hrow
        obtain ⟨hE', _, _⟩ := hrow
        have hd : (E != 0) = true := by rw [bne_iff_ne, ← hE']; exact e2
        have hne : E ≠ 0 := by rw [← hE']; exact e2
        rw [hE']
        clear hO hZ2 z5 l5
        generalize (numF zq).1 = nn at *
        go_wp2_with fail
        exact bodyPost_ret (v := .tuple #[.slice none 0 0, .int .i64 E]) (by simp [results, Try.results56, go_sem]) rfl ⟨.slice none 0 0, rfl, b05, KEPT5.out, fun _ => rfl, fun h => absurd h hne⟩
      rw [e2]
      have hb2 := (hZ2 e2).1
      obtain ⟨a2, ha2⟩ : ∃ a, a = (numF zq).1 := ⟨_, rfl⟩
      rw [← ha2] at hb2 ⊢
      have HA2 := Lib.hid ha2
      obtain ⟨zt, hzt⟩ : ∃ z, z = zq.drop (numF zq).2.1 := ⟨_, rfl⟩
      rw [← hzt] at R5 z5 l5
      have HZT := Lib.hid hzt
      clear ha2 hzt hZ2
      by_cases g2 : 4611686018427387903 - (low + a1) < a2
      case pos =>
        have hO : oneF low zk = (5, (0, 0), []) := by rw [oneF, if_pos e1, if_neg (by rw [← HA1.out]; exact g1), ← HZQ.out, if_pos e2, ← HA1.out, ← HA2.out, if_pos g2]
        rw [hO] at hrow
        simp only at hrow
        rw [if_neg (by decide), Prod.mk.injEq, Prod.mk.injEq] at hrow
        obtain ⟨rfl, _, _⟩ := hrow
        go_wp2_with fail
        exact bodyPost_ret (v := .tuple #[.slice none 0 0, .int .i64 5]) (by simp [results, Try.results56, go_sem]) rfl ⟨.slice none 0 0, rfl, b05, KEPT5.out, fun _ => rfl, fun h => by simp at h⟩
      have hO : oneF low zk = (0, (low + a1, low + a1 + a2), zt) := by rw [oneF, if_pos e1, if_neg (by rw [← HA1.out]; exact g1), ← HZQ.out, if_pos e2, ← HA1.out, ← HA2.out, if_neg g2, ← HZT.out]
      rw [hO] at hrow
      simp only [if_true] at hrow
      have f5 : a2 ≤ 4611686018427387903 - (low + a1) := by omega
      have HROW := Lib.hid hrow
      clear hO hrow
      have hkb : (k : Int) ≤ 32 := by omega
      have hkn : k ≤ 32 := by omega
      go_wp2_with (at_builtin; refine wpList_append_own _ rfl (.tmp 68) (.tmp 74) 50 rfl w.heap.size 84 i (.agg #[.int .u64 0, .int .u64 0]) 2 16 Try.underlying50 hi hzz hs hbb rfl (by decide) _ k _ rfl (OWN5.out.alloc _) ⟨w5.heap.size, 0, none⟩ 1 1 [.int .u64 (low + a1), .int .u64 (low + a1 + a2)] rfl rfl (news2 _ _ _ _) (two2 _ _) (by simp [maxLen]; omega) (by omega) (by simp; omega) ?_; intro v6 w6 own6 hgrow6 hnil6)
      have b56 : Below w.heap.size w5 w6 := below_grownR ((Below.refl _ _).alloc (by omega) _) hgrow6 (by simp; omega) (fun k hk => (OWN5.out.lt k hk).1)
      have R6 := R5.belowP hpw b56
      have b06 := b05.trans (b56.mono (by omega))
      have k06 : Kept p w w6 := fun i hi' hl' => by rw [b56.block i hl', KEPT5.out i hi' hl']
      go_roundw
      case rel =>
        refine ⟨k + 1, low + a1 + a2 + 2, by congr 1, by congr 1, by omega, ⟨?_, by omega, b06, k06⟩⟩
        have hrow := HROW.out
        obtain ⟨er, lr, rr, hR⟩ : ∃ e l r, rowF (low + a1 + a2 + 2) m zt = (e, l, r) := ⟨_, _, _, rfl⟩
        have hnk : n - (k + 1) = m := by omega
        refine ⟨ls ++ [(low + a1, low + a1 + a2)], lr, zt, rr, by rw [List.length_append, HLK.out]; rfl, ?_, ?_, z5, l5, R6, ?_⟩
        · rw [hnk, hR]
          rw [hR] at hrow
          simp only at hrow
          by_cases her : er = 0
          · subst her
            rw [if_pos rfl, Prod.mk.injEq] at hrow
            rw [← hrow.1]
          · rw [if_neg her, Prod.mk.injEq] at hrow
            rw [← hrow.1]
        · intro h0
          rw [hR] at hrow
          simp only at hrow
          by_cases her : er = 0
          · subst her
            rw [if_pos rfl, Prod.mk.injEq, Prod.mk.injEq] at hrow
            obtain ⟨q1, q2⟩ := HE.out h0
            rw [List.append_assoc, ← q1, ← q2, ← hrow.2.1, ← hrow.2.2]
            exact ⟨rfl, rfl⟩
          · rw [if_neg her, Prod.mk.injEq] at hrow
            exact absurd (hrow.1.trans h0) her
        · rw [flatS_append]
          exact own6
      case measure => simp only [intOf]; omega
    · have hkn : k = n := by omega
      subst hkn
      have hd : decide ((k : Int) < (k : Int)) = false := by simp
      rw [Nat.sub_self, rowF, Prod.mk.injEq, Prod.mk.injEq] at hrow
      obtain ⟨rfl, rfl, rfl⟩ := hrow
      obtain ⟨rfl, rfl⟩ := HE.out rfl
      go_wp2_with fail
      exact bodyPost_ret (v := .tuple #[u9, .int .i64 0]) (by simp [results, Try.results56, go_sem]) rfl ⟨_, rfl, bel, KEPT.out, R, by rw [HLK.out]; exact OWN.out⟩

end Go.Proofs.Ytofggpmllfhgaaa
