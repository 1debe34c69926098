/- Word and the reference's Word give the same of the same bytes. -/
import Derived.Test.YtikkmdbaekdolaaNumSame
namespace Go.Proofs.Ytikkmdbaekdolaa
open Go.RowKit Go.Lib
set_option linter.unusedVariables false
set_option maxRecDepth 100000

def WordHere (zs : List Int) (N : Int) (K : Nat) (e : Int) : Prop := ∀ (w : World) (p : Nat), RdAt w p zs →
  Calls Try.prog 124 #[.pointer (some ⟨p, 0, none⟩)] w fun e' w' => e' = .returned (.tuple #[.int .u64 N, .int .i64 e]) ∧ Below p w w' ∧ RdAt w' p (zs.drop K) ∧ Kept p w w'
def WordThere (bs : List Int) (at' : Nat) (N : Int) (K : Nat) (e : Int) : Prop := ∀ (w : World) (g o cap : Nat), BytesAt w g o bs →
  Calls Try.prog 127 #[.slice (some ⟨g, o, none⟩) bs.length cap, .int .i64 (at' : Int)] w fun e' w' => e' = .returned (.tuple #[.int .u64 N, .int .i64 ((at' : Int) + (K : Int)), .int .i64 e]) ∧ w = w'

theorem or_byte64 (y c : Int) (hy : 0 ≤ y ∧ y ≤ 72057594037927935) (hc : 0 ≤ c ∧ c ≤ 255) : bits .or .u64 (y * 256) c = y * 256 + c := or_byte y c hy hc

def wordF (zs : List Int) : Int × Nat × Int := if zs.length < 8 then (0, 0, 2) else (valF 0 (zs.take 8), 8, 0)

theorem wordSame (bs zs : List Int) (at' : Nat) (hz : bs.drop at' = zs) (hb : ∀ x ∈ zs, 0 ≤ x ∧ x ≤ 255) (hat : at' ≤ bs.length) (hlen : bs.length ≤ 140737488351232) : ∃ N K e, K ≤ zs.length ∧ wordF zs = (N, K, e) ∧ WordHere zs N K e ∧ WordThere bs at' N K e := by
  have hl : zs.length = bs.length - at' := by rw [← hz, List.length_drop]
  by_cases l8 : zs.length < 8
  · refine ⟨0, 0, 2, Nat.zero_le _, by rw [wordF, if_pos l8], fun w p hr => ?_, fun w g o cap B => ?_⟩
    · obtain ⟨h1, h2, x, c, h3, h4⟩ := hr
      exact (oWordShort p zs.length c x l8 w h3).mono fun e' w' ⟨a, b⟩ => ⟨a, b ▸ Below.refl _ _, b ▸ ⟨h1, h2, x, c, h3, h4⟩, b ▸ fun _ _ _ => rfl⟩
    · simpa using rWordShort (some ⟨g, o, none⟩) bs.length cap at' hat (by omega) (by omega) w
  obtain ⟨b0, b1, b2, b3, b4, b5, b6, b7, t, ht⟩ : ∃ b0 b1 b2 b3 b4 b5 b6 b7 t, zs = b0 :: b1 :: b2 :: b3 :: b4 :: b5 :: b6 :: b7 :: t := by
    rcases zs with _ | ⟨b0, _ | ⟨b1, _ | ⟨b2, _ | ⟨b3, _ | ⟨b4, _ | ⟨b5, _ | ⟨b6, _ | ⟨b7, t⟩⟩⟩⟩⟩⟩⟩⟩
    iterate 8 (· simp at l8)
    exact ⟨_, _, _, _, _, _, _, _, _, rfl⟩
  have hT : zs.take 8 = [b0, b1, b2, b3, b4, b5, b6, b7] := by rw [ht]; rfl
  have r0 := hb b0 (by rw [ht]; simp)
  have g0 : zs[0]? = some b0 := by rw [ht]; rfl
  have r1 := hb b1 (by rw [ht]; simp)
  have g1 : zs[1]? = some b1 := by rw [ht]; rfl
  have r2 := hb b2 (by rw [ht]; simp)
  have g2 : zs[2]? = some b2 := by rw [ht]; rfl
  have r3 := hb b3 (by rw [ht]; simp)
  have g3 : zs[3]? = some b3 := by rw [ht]; rfl
  have r4 := hb b4 (by rw [ht]; simp)
  have g4 : zs[4]? = some b4 := by rw [ht]; rfl
  have r5 := hb b5 (by rw [ht]; simp)
  have g5 : zs[5]? = some b5 := by rw [ht]; rfl
  have r6 := hb b6 (by rw [ht]; simp)
  have g6 : zs[6]? = some b6 := by rw [ht]; rfl
  have r7 := hb b7 (by rw [ht]; simp)
  have g7 : zs[7]? = some b7 := by rw [ht]; rfl
  have f0 : bits .or .u64 0 b0 = b0 := by have := or_byte 0 b0 (by omega) r0; simpa using this
  obtain ⟨v1, e1⟩ : ∃ v, v = b0 * 256 + b1 := ⟨_, rfl⟩
  have t1 : 0 ≤ v1 ∧ v1 ≤ 65535 := by omega
  have f1 : bits .or .u64 (b0 * 256) b1 = v1 := by rw [or_byte b0 b1 (by omega) r1, e1]
  obtain ⟨v2, e2⟩ : ∃ v, v = v1 * 256 + b2 := ⟨_, rfl⟩
  have t2 : 0 ≤ v2 ∧ v2 ≤ 16777215 := by omega
  have f2 : bits .or .u64 (v1 * 256) b2 = v2 := by rw [or_byte v1 b2 (by omega) r2, e2]
  obtain ⟨v3, e3⟩ : ∃ v, v = v2 * 256 + b3 := ⟨_, rfl⟩
  have t3 : 0 ≤ v3 ∧ v3 ≤ 4294967295 := by omega
  have f3 : bits .or .u64 (v2 * 256) b3 = v3 := by rw [or_byte v2 b3 (by omega) r3, e3]
  obtain ⟨v4, e4⟩ : ∃ v, v = v3 * 256 + b4 := ⟨_, rfl⟩
  have t4 : 0 ≤ v4 ∧ v4 ≤ 1099511627775 := by omega
  have f4 : bits .or .u64 (v3 * 256) b4 = v4 := by rw [or_byte v3 b4 (by omega) r4, e4]
  obtain ⟨v5, e5⟩ : ∃ v, v = v4 * 256 + b5 := ⟨_, rfl⟩
  have t5 : 0 ≤ v5 ∧ v5 ≤ 281474976710655 := by omega
  have f5 : bits .or .u64 (v4 * 256) b5 = v5 := by rw [or_byte v4 b5 (by omega) r5, e5]
  obtain ⟨v6, e6⟩ : ∃ v, v = v5 * 256 + b6 := ⟨_, rfl⟩
  have t6 : 0 ≤ v6 ∧ v6 ≤ 72057594037927935 := by omega
  have f6 : bits .or .u64 (v5 * 256) b6 = v6 := by rw [or_byte v5 b6 (by omega) r6, e6]
  obtain ⟨v7, e7⟩ : ∃ v, v = v6 * 256 + b7 := ⟨_, rfl⟩
  have t7 : 0 ≤ v7 ∧ v7 ≤ 18446744073709551615 := by omega
  have f7 : bits .or .u64 (v6 * 256) b7 = v7 := by rw [or_byte v6 b7 (by omega) r7, e7]
  refine ⟨v7, 8, 0, by omega, by rw [wordF, if_neg l8, hT]; simp only [valF, List.foldl_cons, List.foldl_nil, Int.zero_mul, Int.zero_add, ← e1, ← e2, ← e3, ← e4, ← e5, ← e6, ← e7], fun w p hr => ?_, fun w g o cap B => ?_⟩
  · obtain ⟨h1, h2, x, c, h3, h4, h5, h6⟩ := hr
    obtain ⟨g, o, rfl, h7, h8⟩ := h6.resolve_left (by rw [ht]; simp)
    refine (oWordYes p g o zs.length c zs b0 b1 b2 b3 b4 b5 b6 b7 v1 v2 v3 v4 v5 v6 v7 hT f0 r0 r1 r2 r3 r4 r5 r6 r7 f1 t1 f2 t2 f3 t3 f4 t4 f5 t5 f6 t6 f7 t7 w h3 h2 h1 h8 rfl (by omega) ⟨h4, h5⟩ (by omega)).mono fun e' w' ⟨w1, bl, a, mv⟩ => ⟨a, ?_, ?_, ?_⟩
    · obtain ⟨x, _, rfl⟩ := mv
      exact (bl.mono (by omega)).trans (Below.setCell (Below.refl p w1) (Nat.le_refl p) _)
    · refine RdAt.moved (Nat.lt_of_lt_of_le h1 bl.size) (by rw [bl.frozen h1]; exact h2) h7 (BytesAt.below h8 bl) rfl (by omega) ⟨h4, h5⟩ (by rw [bl.cell h1, h3]; rfl) mv
    · obtain ⟨x, _, rfl⟩ := mv
      exact fun k hk hl => by rw [kept_set _ _ _ _ hk, bl.block k hl]
  · exact rWordYes g o bs.length cap at' b0 b1 b2 b3 b4 b5 b6 b7 v1 v2 v3 v4 v5 v6 v7 f0 r0 r1 r2 r3 r4 r5 r6 r7 f1 t1 f2 t2 f3 t3 f4 t4 f5 t5 f6 t6 f7 t7 (by omega) (by omega) w (cells_there B hz 0 b0 g0) (cells_there B hz 1 b1 g1) (cells_there B hz 2 b2 g2) (cells_there B hz 3 b3 g3) (cells_there B hz 4 b4 g4) (cells_there B hz 5 b5 g5) (cells_there B hz 6 b6 g6) (cells_there B hz 7 b7 g7)

end Go.Proofs.Ytikkmdbaekdolaa
