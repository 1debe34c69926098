/- Num and the reference's Num give the same of the same bytes. -/
import Derived.Test.YtikkmdbaekdolaaRdr
namespace Go.Proofs.Ytikkmdbaekdolaa
open Go.RowKit Go.Lib
set_option linter.unusedVariables false
set_option maxRecDepth 100000

/-- nothing but the block p was written -/
def Kept (p : Nat) (w w' : World) : Prop := ∀ k, k ≠ p → k < w.heap.size → w'.heap[k]? = w.heap[k]?
theorem kept_set (w : World) (a : Addr) (u : Value) (k : Nat) (h : k ≠ a.block) : (w.setCell a u).heap[k]? = w.heap[k]? := by
  simp only [World.setCell, Array.getElem?_modify]
  split
  · rename_i he
    exact absurd he.symm h
  · rfl
def NumHere (zs : List Int) (N : Int) (K : Nat) (e : Int) : Prop := ∀ (w : World) (p : Nat), RdAt w p zs →
  Calls Try.prog 137 #[.pointer (some ⟨p, 0, none⟩)] w fun e' w' => e' = .returned (.tuple #[.int .u64 N, .int .i64 e]) ∧ Below p w w' ∧ RdAt w' p (zs.drop K) ∧ Kept p w w'
def NumThere (bs : List Int) (at' : Nat) (N : Int) (K : Nat) (e : Int) : Prop := ∀ (w : World) (g o cap : Nat), BytesAt w g o bs →
  Calls Try.prog 141 #[.slice (some ⟨g, o, none⟩) bs.length cap, .int .i64 (at' : Int)] w fun e' w' => e' = .returned (.tuple #[.int .u64 N, .int .i64 ((at' : Int) + (K : Int)), .int .i64 e]) ∧ w = w'

/-- nothing moved -/
theorem here_stays {zs : List Int} {N e : Int} (h : ∀ (w : World) (p : Nat), RdAt w p zs → Calls Try.prog 137 #[.pointer (some ⟨p, 0, none⟩)] w fun e' w' => e' = .returned (.tuple #[.int .u64 N, .int .i64 e]) ∧ w = w') : NumHere zs N 0 e :=
  fun w p hr => (h w p hr).mono fun e' w' ⟨a, b⟩ => ⟨a, b ▸ Below.refl _ _, b ▸ hr, b ▸ fun _ _ _ => rfl⟩
theorem here_moves {zs : List Int} {N e : Int} {K : Nat} (hz : zs ≠ []) (hk : K ≤ zs.length) (h : ∀ (w : World) (p g o c : Nat), w.cell? ⟨p, 0, none⟩ = some (.slice (some ⟨g, o, none⟩) zs.length c) → w.frozen? ⟨p, 0, none⟩ = false → BytesAt w g o zs → zs.length ≤ c → c ≤ 9223372036854775807 →
    Calls Try.prog 137 #[.pointer (some ⟨p, 0, none⟩)] w fun e' w' => e' = .returned (.tuple #[.int .u64 N, .int .i64 e]) ∧ Moved p g o zs.length c K w w') : NumHere zs N K e := by
  intro w p ⟨h1, h2, x, c, h3, h4, h5, h6⟩
  obtain ⟨g, o, rfl, h7, h8⟩ := h6.resolve_left hz
  refine (h w p g o c h3 h2 h8 h4 h5).mono fun e' w' ⟨a, b⟩ => ⟨a, ?_, RdAt.moved h1 h2 h7 h8 rfl hk ⟨h4, h5⟩ (by rw [h3]; rfl) b, ?_⟩
  · obtain ⟨x, _, rfl⟩ := b
    exact Below.setCell (Below.refl p w) (Nat.le_refl p) _
  · obtain ⟨x, _, rfl⟩ := b
    exact fun k hk _ => kept_set _ _ _ _ hk

theorem cells_there {w : World} {g o at' : Nat} {bs zs : List Int} (B : BytesAt w g o bs) (hz : bs.drop at' = zs) (i : Nat) (x : Int) (hx : zs[i]? = some x) : w.cell? ⟨g, o + (at' + i), none⟩ = some (.int .u8 x) := by
  subst hz
  have := (BytesAt.drop B at').at i x hx
  rwa [Nat.add_assoc] at this

/-- the number at the front: it, its bytes, the error -/
def valF (v : Int) (l : List Int) : Int := l.foldl (fun a b => a * 256 + b) v
def numG (v k : Int) (K : Nat) : Int × Nat × Int := if sizeI v = k then (v, K, 0) else (0, 0, 5)
def numF : List Int → Int × Nat × Int
  | [] => (0, 0, 2)
  | b0 :: zs => if b0 < 64 then (b0 % 64, 1, 0) else if b0 < 128 then (if (b0 :: zs).length < 2 then (0, 0, 2) else numG (valF (b0 % 64) (zs.take 1)) 2 2) else if b0 < 192 then (if (b0 :: zs).length < 4 then (0, 0, 2) else numG (valF (b0 % 64) (zs.take 3)) 4 4) else (if (b0 :: zs).length < 8 then (0, 0, 2) else numG (valF (b0 % 64) (zs.take 7)) 8 8)

theorem numSame (bs zs : List Int) (at' : Nat) (hz : bs.drop at' = zs) (hb : ∀ x ∈ zs, 0 ≤ x ∧ x ≤ 255) (hat : at' ≤ bs.length) (hlen : bs.length ≤ 140737488355328) : ∃ N K e, K ≤ zs.length ∧ numF zs = (N, K, e) ∧ NumHere zs N K e ∧ NumThere bs at' N K e := by
  have hl : zs.length = bs.length - at' := by rw [← hz, List.length_drop]
  rcases zs with _ | ⟨b0, zs⟩
  · refine ⟨0, 0, 2, Nat.le_refl _, rfl, here_stays fun w p hr => ?_, fun w g o cap B => ?_⟩
    · obtain ⟨_, _, x, c, h3, _⟩ := hr
      exact oNumNone p c x w h3
    · simp at hl
      simpa using rNumEnd (some ⟨g, o, none⟩) bs.length cap at' w (by omega) (by omega)
  have r0 := hb b0 (by simp)
  simp only [List.length_cons] at hl
  by_cases k1 : b0 < 64
  · have ev : b0 % 64 = b0 := by omega
    have hs : sizeI (b0 % 64) = 1 := by rw [ev]; unfold sizeI; rw [if_pos k1]
    refine ⟨b0 % 64, 1, 0, by simp, by simp only [numF, if_pos k1], here_moves (by simp) (by simp) fun w p g o c h3 h2 B h4 h5 => ?_, fun w g o cap B => ?_⟩
    · exact oNum1S p g o _ c b0 w h3 h2 (B.at 0 b0 rfl) ⟨r0.1, k1⟩ ⟨by simp, h4⟩ h5 hs
    · exact rNum1S g o bs.length cap at' b0 w (cells_there B hz 0 b0 rfl) ⟨r0.1, k1⟩ (by omega) (by omega) hs
  by_cases k2 : b0 < 128
  · by_cases l2 : (b0 :: zs).length < 2
    · refine ⟨0, 0, 2, by simp, by simp only [numF, if_neg k1, if_pos k2, if_pos l2], here_stays fun w p hr => ?_, fun w g o cap B => ?_⟩
      · obtain ⟨h1, h2, x, c, h3, h4, h5, h6⟩ := hr
        obtain ⟨g, o, rfl, h7, h8⟩ := h6.resolve_left (by simp)
        exact oNumCut p g o _ c b0 w h3 (h8.at 0 b0 rfl) ⟨by simp, h4, h5⟩ (.inl ⟨by omega, k2, l2⟩)
      · simp only [List.length_cons] at l2
        simpa using rNumCut2 g o bs.length cap at' b0 w (cells_there B hz 0 b0 rfl) ⟨by omega, by omega⟩ (by omega) (by omega) (by omega)
    rcases zs with _ | ⟨b1, zs⟩
    · simp at l2
    simp only [List.length_cons] at hl
    have r1 := hb b1 (by simp)
    obtain ⟨v1, e1⟩ : ∃ v, v = b0 % 64 * 256 + b1 := ⟨_, rfl⟩
    have t1 : 0 ≤ v1 ∧ v1 ≤ 16383 := by omega
    have f1 : bits .or .u64 (b0 % 64 * 256) b1 = v1 := by rw [or_byte (b0 % 64) b1 (by omega) r1, e1]
    by_cases hs : sizeI v1 = 2
    · refine ⟨v1, 2, 0, by simp, by rw [numF, if_neg k1, if_pos k2, if_neg (show ¬ (b0 :: b1 :: zs).length < 2 by simp only [List.length_cons]; omega), show valF (b0 % 64) (List.take 1 (b1 :: zs)) = v1 by simp only [valF, List.take_succ_cons, List.take_zero, List.foldl_cons, List.foldl_nil, ← e1], numG, if_pos hs], here_moves (by simp) (by simp) fun w p g o c h3 h2 B h4 h5 => ?_, fun w g o cap B => ?_⟩
      · exact oNum2S p g o _ c b0 b1 v1 w h3 h2 (B.at 0 b0 rfl) (B.at 1 b1 rfl) ⟨by omega, by omega⟩ r1 f1 t1 ⟨by simp, h4⟩ h5 hs
      · exact rNum2S g o bs.length cap at' b0 b1 v1 w (cells_there B hz 0 b0 rfl) (cells_there B hz 1 b1 rfl) ⟨by omega, by omega⟩ r1 f1 t1 (by omega) (by omega) hs
    · have hs2 : (sizeI v1 != 2) = true := by rw [bne_iff_ne]; exact hs
      refine ⟨0, 0, 5, by simp, by rw [numF, if_neg k1, if_pos k2, if_neg (show ¬ (b0 :: b1 :: zs).length < 2 by simp only [List.length_cons]; omega), show valF (b0 % 64) (List.take 1 (b1 :: zs)) = v1 by simp only [valF, List.take_succ_cons, List.take_zero, List.foldl_cons, List.foldl_nil, ← e1], numG, if_neg hs], here_stays fun w p hr => ?_, fun w g o cap B => ?_⟩
      · obtain ⟨h1, h2, x, c, h3, h4, h5, h6⟩ := hr
        obtain ⟨g, o, rfl, h7, B⟩ := h6.resolve_left (by simp)
        exact oNum2F p g o _ c b0 b1 v1 w h3 h2 (B.at 0 b0 rfl) (B.at 1 b1 rfl) ⟨by omega, by omega⟩ r1 f1 t1 ⟨by simp, h4⟩ h5 hs2
      · simpa using rNum2F g o bs.length cap at' b0 b1 v1 w (cells_there B hz 0 b0 rfl) (cells_there B hz 1 b1 rfl) ⟨by omega, by omega⟩ r1 f1 t1 (by omega) (by omega) hs2
  by_cases k4 : b0 < 192
  · by_cases l4 : (b0 :: zs).length < 4
    · refine ⟨0, 0, 2, by simp, by simp only [numF, if_neg k1, if_neg k2, if_pos k4, if_pos l4], here_stays fun w p hr => ?_, fun w g o cap B => ?_⟩
      · obtain ⟨h1, h2, x, c, h3, h4, h5, h6⟩ := hr
        obtain ⟨g, o, rfl, h7, h8⟩ := h6.resolve_left (by simp)
        exact oNumCut p g o _ c b0 w h3 (h8.at 0 b0 rfl) ⟨by simp, h4, h5⟩ (.inr (.inl ⟨by omega, k4, l4⟩))
      · simp only [List.length_cons] at l4
        simpa using rNumCut4 g o bs.length cap at' b0 w (cells_there B hz 0 b0 rfl) ⟨by omega, by omega⟩ (by omega) (by omega) (by omega)
    rcases zs with _ | ⟨b1, _ | ⟨b2, _ | ⟨b3, zs⟩⟩⟩
    · simp at l4
    · simp at l4
    · simp at l4
    simp only [List.length_cons] at hl
    have r1 := hb b1 (by simp)
    have r2 := hb b2 (by simp)
    have r3 := hb b3 (by simp)
    obtain ⟨v1, e1⟩ : ∃ v, v = b0 % 64 * 256 + b1 := ⟨_, rfl⟩
    have t1 : 0 ≤ v1 ∧ v1 ≤ 16383 := by omega
    have f1 : bits .or .u64 (b0 % 64 * 256) b1 = v1 := by rw [or_byte (b0 % 64) b1 (by omega) r1, e1]
    obtain ⟨v2, e2⟩ : ∃ v, v = v1 * 256 + b2 := ⟨_, rfl⟩
    have t2 : 0 ≤ v2 ∧ v2 ≤ 4194303 := by omega
    have f2 : bits .or .u64 (v1 * 256) b2 = v2 := by rw [or_byte (v1) b2 (by omega) r2, e2]
    obtain ⟨v3, e3⟩ : ∃ v, v = v2 * 256 + b3 := ⟨_, rfl⟩
    have t3 : 0 ≤ v3 ∧ v3 ≤ 1073741823 := by omega
    have f3 : bits .or .u64 (v2 * 256) b3 = v3 := by rw [or_byte (v2) b3 (by omega) r3, e3]
    by_cases hs : sizeI v3 = 4
    · refine ⟨v3, 4, 0, by simp, by rw [numF, if_neg k1, if_neg k2, if_pos k4, if_neg (show ¬ (b0 :: b1 :: b2 :: b3 :: zs).length < 4 by simp only [List.length_cons]; omega), show valF (b0 % 64) (List.take 3 (b1 :: b2 :: b3 :: zs)) = v3 by simp only [valF, List.take_succ_cons, List.take_zero, List.foldl_cons, List.foldl_nil, ← e1, ← e2, ← e3], numG, if_pos hs], here_moves (by simp) (by simp) fun w p g o c h3 h2 B h4 h5 => ?_, fun w g o cap B => ?_⟩
      · exact oNum4S p g o _ c b0 b1 b2 b3 v1 v2 v3 w h3 h2 (B.at 0 b0 rfl) (B.at 1 b1 rfl) (B.at 2 b2 rfl) (B.at 3 b3 rfl) ⟨by omega, by omega⟩ r1 r2 r3 f1 t1 f2 t2 f3 t3 ⟨by simp, h4⟩ h5 hs
      · exact rNum4S g o bs.length cap at' b0 b1 b2 b3 v1 v2 v3 w (cells_there B hz 0 b0 rfl) (cells_there B hz 1 b1 rfl) (cells_there B hz 2 b2 rfl) (cells_there B hz 3 b3 rfl) ⟨by omega, by omega⟩ r1 r2 r3 f1 t1 f2 t2 f3 t3 (by omega) (by omega) hs
    · have hs2 : (sizeI v3 != 4) = true := by rw [bne_iff_ne]; exact hs
      refine ⟨0, 0, 5, by simp, by rw [numF, if_neg k1, if_neg k2, if_pos k4, if_neg (show ¬ (b0 :: b1 :: b2 :: b3 :: zs).length < 4 by simp only [List.length_cons]; omega), show valF (b0 % 64) (List.take 3 (b1 :: b2 :: b3 :: zs)) = v3 by simp only [valF, List.take_succ_cons, List.take_zero, List.foldl_cons, List.foldl_nil, ← e1, ← e2, ← e3], numG, if_neg hs], here_stays fun w p hr => ?_, fun w g o cap B => ?_⟩
      · obtain ⟨h1, h2, x, c, h3, h4, h5, h6⟩ := hr
        obtain ⟨g, o, rfl, h7, B⟩ := h6.resolve_left (by simp)
        exact oNum4F p g o _ c b0 b1 b2 b3 v1 v2 v3 w h3 h2 (B.at 0 b0 rfl) (B.at 1 b1 rfl) (B.at 2 b2 rfl) (B.at 3 b3 rfl) ⟨by omega, by omega⟩ r1 r2 r3 f1 t1 f2 t2 f3 t3 ⟨by simp, h4⟩ h5 hs2
      · simpa using rNum4F g o bs.length cap at' b0 b1 b2 b3 v1 v2 v3 w (cells_there B hz 0 b0 rfl) (cells_there B hz 1 b1 rfl) (cells_there B hz 2 b2 rfl) (cells_there B hz 3 b3 rfl) ⟨by omega, by omega⟩ r1 r2 r3 f1 t1 f2 t2 f3 t3 (by omega) (by omega) hs2
  have k8 : b0 < 256 := by omega
  by_cases l8 : (b0 :: zs).length < 8
  · refine ⟨0, 0, 2, by simp, by simp only [numF, if_neg k1, if_neg k2, if_neg k4, if_pos l8], here_stays fun w p hr => ?_, fun w g o cap B => ?_⟩
    · obtain ⟨h1, h2, x, c, h3, h4, h5, h6⟩ := hr
      obtain ⟨g, o, rfl, h7, h8⟩ := h6.resolve_left (by simp)
      exact oNumCut p g o _ c b0 w h3 (h8.at 0 b0 rfl) ⟨by simp, h4, h5⟩ (.inr (.inr ⟨by omega, r0.2, l8⟩))
    · simp only [List.length_cons] at l8
      simpa using rNumCut8 g o bs.length cap at' b0 w (cells_there B hz 0 b0 rfl) ⟨by omega, by omega⟩ (by omega) (by omega) (by omega)
  rcases zs with _ | ⟨b1, _ | ⟨b2, _ | ⟨b3, _ | ⟨b4, _ | ⟨b5, _ | ⟨b6, _ | ⟨b7, zs⟩⟩⟩⟩⟩⟩⟩
  · simp at l8
  · simp at l8
  · simp at l8
  · simp at l8
  · simp at l8
  · simp at l8
  · simp at l8
  simp only [List.length_cons] at hl
  have r1 := hb b1 (by simp)
  have r2 := hb b2 (by simp)
  have r3 := hb b3 (by simp)
  have r4 := hb b4 (by simp)
  have r5 := hb b5 (by simp)
  have r6 := hb b6 (by simp)
  have r7 := hb b7 (by simp)
  obtain ⟨v1, e1⟩ : ∃ v, v = b0 % 64 * 256 + b1 := ⟨_, rfl⟩
  have t1 : 0 ≤ v1 ∧ v1 ≤ 16383 := by omega
  have f1 : bits .or .u64 (b0 % 64 * 256) b1 = v1 := by rw [or_byte (b0 % 64) b1 (by omega) r1, e1]
  obtain ⟨v2, e2⟩ : ∃ v, v = v1 * 256 + b2 := ⟨_, rfl⟩
  have t2 : 0 ≤ v2 ∧ v2 ≤ 4194303 := by omega
  have f2 : bits .or .u64 (v1 * 256) b2 = v2 := by rw [or_byte (v1) b2 (by omega) r2, e2]
  obtain ⟨v3, e3⟩ : ∃ v, v = v2 * 256 + b3 := ⟨_, rfl⟩
  have t3 : 0 ≤ v3 ∧ v3 ≤ 1073741823 := by omega
  have f3 : bits .or .u64 (v2 * 256) b3 = v3 := by rw [or_byte (v2) b3 (by omega) r3, e3]
  obtain ⟨v4, e4⟩ : ∃ v, v = v3 * 256 + b4 := ⟨_, rfl⟩
  have t4 : 0 ≤ v4 ∧ v4 ≤ 274877906943 := by omega
  have f4 : bits .or .u64 (v3 * 256) b4 = v4 := by rw [or_byte (v3) b4 (by omega) r4, e4]
  obtain ⟨v5, e5⟩ : ∃ v, v = v4 * 256 + b5 := ⟨_, rfl⟩
  have t5 : 0 ≤ v5 ∧ v5 ≤ 70368744177663 := by omega
  have f5 : bits .or .u64 (v4 * 256) b5 = v5 := by rw [or_byte (v4) b5 (by omega) r5, e5]
  obtain ⟨v6, e6⟩ : ∃ v, v = v5 * 256 + b6 := ⟨_, rfl⟩
  have t6 : 0 ≤ v6 ∧ v6 ≤ 18014398509481983 := by omega
  have f6 : bits .or .u64 (v5 * 256) b6 = v6 := by rw [or_byte (v5) b6 (by omega) r6, e6]
  obtain ⟨v7, e7⟩ : ∃ v, v = v6 * 256 + b7 := ⟨_, rfl⟩
  have t7 : 0 ≤ v7 ∧ v7 ≤ 4611686018427387903 := by omega
  have f7 : bits .or .u64 (v6 * 256) b7 = v7 := by rw [or_byte (v6) b7 (by omega) r7, e7]
  by_cases hs : sizeI v7 = 8
  · refine ⟨v7, 8, 0, by simp, by rw [numF, if_neg k1, if_neg k2, if_neg k4, if_neg (show ¬ (b0 :: b1 :: b2 :: b3 :: b4 :: b5 :: b6 :: b7 :: zs).length < 8 by simp only [List.length_cons]; omega), show valF (b0 % 64) (List.take 7 (b1 :: b2 :: b3 :: b4 :: b5 :: b6 :: b7 :: zs)) = v7 by simp only [valF, List.take_succ_cons, List.take_zero, List.foldl_cons, List.foldl_nil, ← e1, ← e2, ← e3, ← e4, ← e5, ← e6, ← e7], numG, if_pos hs], here_moves (by simp) (by simp) fun w p g o c h3 h2 B h4 h5 => ?_, fun w g o cap B => ?_⟩
    · exact oNum8S p g o _ c b0 b1 b2 b3 b4 b5 b6 b7 v1 v2 v3 v4 v5 v6 v7 w h3 h2 (B.at 0 b0 rfl) (B.at 1 b1 rfl) (B.at 2 b2 rfl) (B.at 3 b3 rfl) (B.at 4 b4 rfl) (B.at 5 b5 rfl) (B.at 6 b6 rfl) (B.at 7 b7 rfl) ⟨by omega, by omega⟩ r1 r2 r3 r4 r5 r6 r7 f1 t1 f2 t2 f3 t3 f4 t4 f5 t5 f6 t6 f7 t7 ⟨by simp, h4⟩ h5 hs
    · exact rNum8S g o bs.length cap at' b0 b1 b2 b3 b4 b5 b6 b7 v1 v2 v3 v4 v5 v6 v7 w (cells_there B hz 0 b0 rfl) (cells_there B hz 1 b1 rfl) (cells_there B hz 2 b2 rfl) (cells_there B hz 3 b3 rfl) (cells_there B hz 4 b4 rfl) (cells_there B hz 5 b5 rfl) (cells_there B hz 6 b6 rfl) (cells_there B hz 7 b7 rfl) ⟨by omega, by omega⟩ r1 r2 r3 r4 r5 r6 r7 f1 t1 f2 t2 f3 t3 f4 t4 f5 t5 f6 t6 f7 t7 (by omega) (by omega) hs
  · have hs2 : (sizeI v7 != 8) = true := by rw [bne_iff_ne]; exact hs
    refine ⟨0, 0, 5, by simp, by rw [numF, if_neg k1, if_neg k2, if_neg k4, if_neg (show ¬ (b0 :: b1 :: b2 :: b3 :: b4 :: b5 :: b6 :: b7 :: zs).length < 8 by simp only [List.length_cons]; omega), show valF (b0 % 64) (List.take 7 (b1 :: b2 :: b3 :: b4 :: b5 :: b6 :: b7 :: zs)) = v7 by simp only [valF, List.take_succ_cons, List.take_zero, List.foldl_cons, List.foldl_nil, ← e1, ← e2, ← e3, ← e4, ← e5, ← e6, ← e7], numG, if_neg hs], here_stays fun w p hr => ?_, fun w g o cap B => ?_⟩
    · obtain ⟨h1, h2, x, c, h3, h4, h5, h6⟩ := hr
      obtain ⟨g, o, rfl, h7, B⟩ := h6.resolve_left (by simp)
      exact oNum8F p g o _ c b0 b1 b2 b3 b4 b5 b6 b7 v1 v2 v3 v4 v5 v6 v7 w h3 h2 (B.at 0 b0 rfl) (B.at 1 b1 rfl) (B.at 2 b2 rfl) (B.at 3 b3 rfl) (B.at 4 b4 rfl) (B.at 5 b5 rfl) (B.at 6 b6 rfl) (B.at 7 b7 rfl) ⟨by omega, by omega⟩ r1 r2 r3 r4 r5 r6 r7 f1 t1 f2 t2 f3 t3 f4 t4 f5 t5 f6 t6 f7 t7 ⟨by simp, h4⟩ h5 hs2
    · simpa using rNum8F g o bs.length cap at' b0 b1 b2 b3 b4 b5 b6 b7 v1 v2 v3 v4 v5 v6 v7 w (cells_there B hz 0 b0 rfl) (cells_there B hz 1 b1 rfl) (cells_there B hz 2 b2 rfl) (cells_there B hz 3 b3 rfl) (cells_there B hz 4 b4 rfl) (cells_there B hz 5 b5 rfl) (cells_there B hz 6 b6 rfl) (cells_there B hz 7 b7 rfl) ⟨by omega, by omega⟩ r1 r2 r3 r4 r5 r6 r7 f1 t1 f2 t2 f3 t3 f4 t4 f5 t5 f6 t6 f7 t7 (by omega) (by omega) hs2

end Go.Proofs.Ytikkmdbaekdolaa
