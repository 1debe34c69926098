/- THE ROWS' COMMON GROUND: how a law's arguments are opened for its walk. -/
import Derived.Test.YtikkmdbaekdolaaWide
import Derived.Test.YtikkmdbaekdolaaGr
import Derived.ProofKit
import Derived.OpenShut
import Derived.ShutString
import Derived.ChangeOld
import Derived.Below
namespace Go.Proofs.Ytikkmdbaekdolaa
open Go.ChangeShapes Go.WideShapes Go.ChangeAt Go.RowKit
set_option linter.unusedVariables false
set_option maxRecDepth 100000

theorem own : ownKnob Try.prog.godebug = none := by kernel_rfl
theorem laidOut : laidOutB Try.prog = true := by kernel_rfl

theorem wfU64 {a : Int} (h : (Lit.int .u64 a).wf = true) : W64 a := by
  simpa [W64, Lit.wf, IntKind.min, IntKind.max, IntKind.signed, IntKind.bits] using h
theorem wfU32 {a : Int} (h : (Lit.int .u32 a).wf = true) : 0 ≤ a ∧ a ≤ 4294967295 := by
  simpa [Lit.wf, IntKind.min, IntKind.max, IntKind.signed, IntKind.bits] using h
theorem wfU16 {a : Int} (h : (Lit.int .u16 a).wf = true) : 0 ≤ a ∧ a ≤ 65535 := by
  simpa [Lit.wf, IntKind.min, IntKind.max, IntKind.signed, IntKind.bits] using h
theorem wfU8 {a : Int} (h : (Lit.int .u8 a).wf = true) : 0 ≤ a ∧ a ≤ 255 := by
  simpa [Lit.wf, IntKind.min, IntKind.max, IntKind.signed, IntKind.bits] using h
theorem wfI64 {a : Int} (h : (Lit.int .i64 a).wf = true) : -9223372036854775808 ≤ a ∧ a ≤ 9223372036854775807 := by
  simpa [Lit.wf, IntKind.min, IntKind.max, IntKind.signed, IntKind.bits] using h

/-- a slice of integers that came in: nil, or a row of 'cap' cells that hold the numbers 'zs', each fitting its kind -/
def IsRow (k : IntKind) (w : World) (a : Option Addr) (len cap : Nat) (zs : List Int) : Prop :=
  (a = none ∧ len = 0 ∧ cap = 0 ∧ zs = []) ∨
  ∃ x, a = some x ∧ len ≤ cap ∧ cap ≤ maxLen ∧ zs.length = cap ∧ (∀ i, i < zs.length → w.cell? (x.add i) = some (.int k (zs.getD i 0))) ∧ ∀ n ∈ zs, (Lit.int k n).wf = true

/-- the cells of a flat struct, by their kinds ('none': a bool) -/
def Fits : List (Option IntKind) → List Value → Prop
  | [], [] => True
  | some k :: ks, c :: cs => (∃ x, c = .int k x ∧ (Lit.int k x).wf = true) ∧ Fits ks cs
  | none :: ks, c :: cs => (∃ b, c = .bool b) ∧ Fits ks cs
  | _, _ => False

theorem Fits.append : ∀ (ks : List (Option IntKind)) (cs : List Value) {ks' : List (Option IntKind)} {cs' : List Value}, Fits ks cs → Fits ks' cs' → Fits (ks ++ ks') (cs ++ cs')
  | [], [], _, _, _, h' => h'
  | some k :: ks, c :: cs, _, _, h, h' => ⟨h.1, Fits.append ks cs h.2 h'⟩
  | none :: ks, c :: cs, _, _, h, h' => ⟨h.1, Fits.append ks cs h.2 h'⟩
  | [], _ :: _, _, _, h, _ => h.elim
  | some _ :: _, [], _, _, h, _ => h.elim
  | none :: _, [], _, _, h, _ => h.elim

/-- one field more -/
def leafStep (P : Program) (lv : TypeId → Option (List (Option IntKind))) (acc : Option (List (Option IntKind))) (f : Field) : Option (List (Option IntKind)) :=
  match acc, lv f.type with
  | some l, some l' => if f.offset = l.length ∧ P.cellsOf f.type = l'.length then some (l ++ l') else none
  | _, _ => none

theorem leafStep_none {P : Program} {lv : TypeId → Option (List (Option IntKind))} {acc : List (Option IntKind)} {f : Field} (h : lv f.type = none) : leafStep P lv (some acc) f = none := by
  simp [leafStep, h]
theorem leafStep_some {P : Program} {lv : TypeId → Option (List (Option IntKind))} {acc lf : List (Option IntKind)} {f : Field} (h : lv f.type = some lf) :
    leafStep P lv (some acc) f = if f.offset = acc.length ∧ P.cellsOf f.type = lf.length then some (acc ++ lf) else none := by
  simp [leafStep, h]

/-- the kinds of a flat type's cells: integers, bools, structs of such -/
def leaves (P : Program) : Nat → TypeId → Option (List (Option IntKind))
  | 0, _ => none
  | n + 1, t => match P.underlying t with
    | some (.int k) => some [some k]
    | some .bool => some [none]
    | some (.struct fs) =>
      match fs.toList.foldl (leafStep P (leaves P n)) (some []) with
      | some l => if P.cellsOf t = l.length then some l else none
      | none => none
    | _ => none

theorem foldl_none {α β : Type} (g : Option α → β → Option α) (hg : ∀ b, g none b = none) : ∀ l : List β, l.foldl g none = none
  | [] => rfl
  | b :: l => by rw [List.foldl_cons, hg, foldl_none g hg l]

theorem fits_of_trod {H : Type} {enc : TypeId × Value → H} {P : Program} {w : World} {base : Nat} {spare : Nat → Bool} {held : Bool} :
    ∀ (n : Nat) (t : TypeId) (ks : List (Option IntKind)) (fuel : Nat) (cs : List Value) (x : DataW H × List MemPlace),
      leaves P n t = some ks → DataW.trod enc P w base spare held fuel t cs = some x → Fits ks cs := by
  intro n
  induction n with
  | zero => intro t ks fuel cs x hl; simp [leaves] at hl
  | succ n ih =>
    intro t ks fuel cs x hl hx
    unfold leaves at hl
    split at hl
    · rename_i k hu
      cases hl
      obtain ⟨m, rfl, _, hw⟩ := DataW.trod_int hu hx
      exact ⟨⟨m, rfl, hw⟩, trivial⟩
    · rename_i hu
      cases hl
      obtain ⟨b, rfl, _⟩ := DataW.trod_bool hu hx
      exact ⟨⟨b, rfl⟩, trivial⟩
    · rename_i fs hu
      obtain ⟨xs, m, _, _, hlen, hxs, hf⟩ := DataW.trod_struct hu hx
      have key : ∀ (l : List Field) (acc : List (Option IntKind)) (l' : List (Option IntKind)) (j : Nat), (∀ (i : Nat) (f : Field), l[i]? = some f → ∃ y, DataW.trod enc P w base spare held m f.type ((cs.drop f.offset).take (P.cellsOf f.type)) = some y) →
          Fits acc (cs.take acc.length) → acc.length ≤ cs.length →
          l.foldl (leafStep P (leaves P n)) (some acc) = some l' → l'.length ≤ cs.length → Fits l' (cs.take l'.length) := by
        intro l
        induction l with
        | nil => intro acc l' _ _ hF _ he _; simp only [List.foldl_nil, Option.some.injEq] at he; subst he; exact hF
        | cons f l ihl =>
          intro acc l' j hall hF hle he hle'
          rw [List.foldl_cons] at he
          cases hlv : leaves P n f.type with
          | none =>
            rw [leafStep_none hlv, foldl_none _ (fun b => rfl)] at he
            cases he
          | some lf =>
            rw [leafStep_some hlv] at he
            by_cases hc : f.offset = acc.length ∧ P.cellsOf f.type = lf.length
            · rw [if_pos hc] at he
              obtain ⟨y, hy⟩ := hall 0 f rfl
              have h1 := ih f.type lf m _ y hlv hy
              have hlen2 : ∀ (ks : List (Option IntKind)) (cs : List Value), Fits ks cs → ks.length = cs.length := by
                intro ks
                induction ks with
                | nil => intro cs h; cases cs with
                  | nil => rfl
                  | cons => exact h.elim
                | cons k ks ihk => intro cs h; cases cs with
                  | nil => cases k <;> exact h.elim
                  | cons c cs => cases k <;> exact congrArg (· + 1) (ihk cs h.2)
              have h2 := hlen2 _ _ h1
              rw [hc.1, hc.2] at h1 h2
              rw [List.length_take, List.length_drop] at h2
              refine ihl (acc ++ lf) l' (j + 1) (fun i g hg => hall (i + 1) g hg) ?_ (by rw [List.length_append]; omega) he hle'
              rw [List.length_append, List.take_add]
              exact Fits.append _ _ hF h1
            · rw [if_neg hc] at he
              rw [foldl_none _ (fun b => rfl)] at he
              cases he
      split at hl
      · rename_i l hfold
        split at hl
        · rename_i hsz
          cases hl
          have := key fs.toList [] ks 0 (fun i f hif => by
            have h1 := hf i f (by simpa using hif)
            have h2 : i < xs.length := by
              rw [hxs]
              have := (List.getElem?_eq_some_iff.1 hif).1
              simpa using this
            exact ⟨xs[i], by rw [h1, List.getElem?_eq_getElem h2]⟩) trivial (Nat.zero_le _) hfold (by omega)
          rwa [List.take_of_length_le (by omega)] at this
        · cases hl
      · cases hl
    · cases hl

end Go.Proofs.Ytikkmdbaekdolaa
