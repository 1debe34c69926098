/- For all fates and two rows of datagrams that are put, PathForks returns true: a way and its fork tell the same, and neither touches the other. No condition. -/
import Derived.Test.YtikkmdbaekdolaaBase
import Derived.SizedLaws
import Derived.Test.YtikkmdbaekdolaaPaB
import Derived.Test.YtikkmdbaekdolaaPutArg
import Derived.Test.YtikkmdbaekdolaaReno
import Derived.Test.YtikkmdbaekdolaaTurn
namespace Go.Proofs.Ytikkmdbaekdolaa.pathForks
open Go.ChangeShapes Go.WideShapes Go.ChangeAt Go.RowKit Go.Lib
set_option linter.unusedVariables false
set_option maxRecDepth 100000

theorem box_ref {w0 w : World} {x0 : Option Addr} {c0 P : Nat} {fl : List FateP} (hb : Below w0.heap.size w0 w) (hP : w0.heap.size ≤ P) (hF : FRow w0 x0 fl) {nf : Nat} (hn : fl.length = nf) {xf : Option Addr} {cf : Nat} (hp : PipeAt w (fun g => False ∨ g = P) P xf cf fl 0 (.slice none 0 0) []) :
    Duo (w.alloc (.cells #[.slice x0 nf c0, .slice none 0 0, .int .i64 0] 60 (0, 0))) (fun g => (False ∨ g = P) ∨ g = w.heap.size) P w.heap.size xf x0 cf c0 fl 0 0 (.slice none 0 0) (.slice none 0 0) [] [] := by
  have K : Chg (fun _ => False) w (w.alloc (.cells #[.slice x0 nf c0, .slice none 0 0, .int .i64 0] 60 (0, 0))) := Chg.alloc _ _
  have K0 : Chg (fun _ => False) w0 (w.alloc (.cells #[.slice x0 nf c0, .slice none 0 0, .int .i64 0] 60 (0, 0))) := (Chg.ofBelow hb).trans K (fun _ h => .inl h)
  have lP := hp.row.lt
  have hm : MsL (w.alloc (.cells #[.slice x0 nf c0, .slice none 0 0, .int .i64 0] 60 (0, 0))) (fun g => (False ∨ g = P) ∨ g = w.heap.size) := fun g h => by
    simp
    rcases h with (h | h) | h
    · exact h.elim
    · omega
    · omega
  refine ⟨hp.far K (fun _ h => h.elim) (fun _ h => h.elim) (fun g h => .inl h) (fun g h => h.elim .inl (fun h => .inr (by omega))) hm, ?_, fun g e k => ?_⟩
  · refine { row := by rw [hn]; exact RowIs.mk (heap_alloc_new w _), mine := .inr rfl, msl := hm, fates := hF.chg K0 (fun _ _ _ _ h => h), fatesF := fun g o hne e => ?_, own := World.ownsRow_nil _ _ _ _, vms := (fun g h => by cases h), its := (fun d hd => by cases hd) }
    rcases hF with h | ⟨g', o', e', hl, _⟩
    · exact absurd h hne
    · rw [e] at e'
      cases e'
      have := hb.size
      refine ⟨Nat.lt_of_lt_of_le hl K0.size, fun h => ?_⟩
      rcases h with (h | h) | h
      · exact h
      · omega
      · omega
  · rcases e with e | e
    · rcases k with k | k
      · omega
      · cases k
    · cases e

set_option maxHeartbeats 16000000 in
theorem walkN (x0 : Option Addr) (c0 : Nat) (fl : List FateP) (hx0 : x0 = none → fl = []) (hfd : ∀ d ∈ fl, W64 d.delay) (hfb : fl.length * 16 ≤ 140737488355328) (x : Option Addr) (c : Nat) (l : List PutP) (hl9 : l.length ≤ 9223372036854775807) (y : Option Addr) (cy : Nat) (mo : List PutP) (hm9 : mo.length ≤ 9223372036854775807) (w : World) (hF : FRow w x0 fl) (hP : PutsRow w x l) (hM : PutsRow w y mo) :
    Calls Try.prog 7 #[.slice x0 fl.length c0, .slice x l.length c, .slice y mo.length cy] w fun e w' => e = .returned (.bool true) ∧ Below w.heap.size w w' := by
  have HP := Lib.hid hP
  have HM := Lib.hid hM
  have HX0 := Lib.hid hx0
  have HFR := Lib.hid hF
  have HFD := Lib.hid hfd
  have HNEW := Lib.hid (pNew (fun _ => False) x0 c0 fl hx0 hfb w (fun _ h => h.elim) hF)
  have HFB := Lib.hid hfb
  obtain ⟨n, hn⟩ : ∃ n, l.length = n := ⟨_, rfl⟩
  have HN := Lib.hid hn
  obtain ⟨m, hm⟩ : ∃ n, mo.length = n := ⟨_, rfl⟩
  have HMN := Lib.hid hm
  obtain ⟨nf, hnf⟩ : ∃ n, fl.length = n := ⟨_, rfl⟩
  have HNF := Lib.hid hnf
  rw [hn] at hl9 ⊢
  rw [hm] at hm9 ⊢
  rw [hnf] at HNEW ⊢
  have hnI : (n : Int) ≤ 9223372036854775807 := by omega
  have hmI : (m : Int) ≤ 9223372036854775807 := by omega
  clear hP hM hn hm hnf hfd hfb hF hx0
  go_enter Try.func7, Try.ntmps7
  go_wp2_with fail
  ((with_reducible refine HNEW.out.mono ?_); rintro e' w2 ⟨P, xf, cf, rfl, b2, hPw, PA⟩)
  have HPA := Lib.hid PA
  clear PA HNEW
  go_wp2_with fail
  ((with_reducible refine (alivePath _).mono ?_); rintro e' w3 ⟨rfl, b3⟩)
  have c3 := b2.trans (b3.mono b2.size)
  by_cases hc : 60 < n ∨ 60 < m
  · rcases Nat.lt_or_ge 60 n with h6 | h6
    · have d1 : decide ((60 : Int) < (n : Int)) = true := decide_eq_true (by omega)
      clear hc
      go_wp2_with fail
      ((with_reducible refine (alivePath _).mono ?_); rintro e' wB ⟨rfl, bB⟩)
      go_wp2_with fail
      go_ret
      exact ⟨rfl, c3.trans (bB.mono c3.size)⟩
    · have d1 : decide ((60 : Int) < (n : Int)) = false := decide_eq_false (by omega)
      have d2 : decide ((60 : Int) < (m : Int)) = true := decide_eq_true (by omega)
      clear hc
      go_wp2_with fail
      ((with_reducible refine (alivePath _).mono ?_); rintro e' wB ⟨rfl, bB⟩)
      go_wp2_with fail
      go_ret
      exact ⟨rfl, c3.trans (bB.mono c3.size)⟩
  have d1 : decide ((60 : Int) < (n : Int)) = false := decide_eq_false (by omega)
  have d2 : decide ((60 : Int) < (m : Int)) = false := decide_eq_false (by omega)
  have hn60 : n ≤ 60 := by omega
  have hm60 : m ≤ 60 := by omega
  have HDU := Lib.hid (box_ref (c0 := c0) c3 hPw HFR.out HNF.out (HPA.out.same (Chg.ofBelow b3)))
  have s3 := c3.size
  have HC3 : Hid (Below w.heap.size w (w3.alloc (.cells #[.slice x0 nf c0, .slice none 0 0, .int .i64 0] 60 (0, 0)))) := c3.alloc s3 _
  have HPW : Hid (w.heap.size ≤ P) := hPw
  obtain ⟨R, hR⟩ : ∃ R, R = w3.heap.size := ⟨_, rfl⟩
  have HRW : Hid (w.heap.size ≤ R) := by show _; rw [hR]; exact s3
  have HRE := Lib.hid hR
  clear HPA hc hPw b2 b3 hR
  go_wp2_with fail
  go_loopw [41] (fun iv wr => ∃ (k : Nat) (vp vr : Value) (lp lr : List Itm) (ms : Nat → Prop), iv = .int .i64 (k : Int) ∧ k ≤ n ∧ Below w.heap.size w wr ∧ (∀ g, ms g → w.heap.size ≤ g) ∧ Duo wr ms P w3.heap.size xf x0 cf c0 fl (k : Int) (k : Int) vp vr lp lr ∧ Alike lp lr (2 * k)) (fun iv _ => (n - Lib.intOf iv).toNat)
  case atStart => exact ⟨0, .slice none 0 0, .slice none 0 0, [], [], _, rfl, Nat.zero_le _, HC3.out, fun g h => by
    rcases h with (h | h) | h
    · exact h.elim
    · rw [h]; exact HPW.out
    · rw [h]; exact s3, HDU.out, Alike.nil⟩
  case round =>
    obtain ⟨k, vp, vr, lp, lr, ms, rfl, hk, hbel, hmsw, hduo, hal⟩ := hrel
    have HB := Lib.hid hbel
    have HMS := Lib.hid hmsw
    have HD := Lib.hid hduo
    have HAL := Lib.hid hal
    have sW := hbel.size
    have hlr := hal.len
    have hlp := hal.lenP
    clear hbel hmsw hduo hal
    by_cases hkn : k < n
    case neg =>
      have hke : k = n := by omega
      subst hke
      have dk : decide ((k : Int) < (k : Int)) = false := decide_eq_false (by omega)
      have HFK := Lib.hid (pFork ms P xf cf fl k vp lp (by omega) HFB.out wr HD.out.p)
      go_wp2_with fail
      ((refine HFK.out.mono ?_); rintro e' w4 ⟨Q, xq, cq, vq, ms4, rfl, b4, hQ, hvq, up4, dn4, PQ⟩)
      have D4 := HD.out.far (Chg.ofBelow (ms := fun _ => False) b4) (fun _ h => h.elim) (fun _ h => h.elim) (fun _ h => h.elim) up4 dn4 PQ.msl
      have HRF := Lib.hid (rFork ms4 w3.heap.size x0 c0 fl k vr lr HX0.out (by omega) HFB.out w4 D4.r)
      have HPQ := Lib.hid PQ
      have HD4 := Lib.hid D4
      have hfQ : Hid (∀ g, foot Q vq g → wr.heap.size ≤ g) := fun g e => e.elim (fun e => by rw [e]; exact hQ) (hvq g)
      have HC4 := Lib.hid (HB.out.trans (b4.mono sW))
      have HM4 : Hid (∀ g, ms4 g → w.heap.size ≤ g) := fun g h => (dn4 g h).elim (HMS.out g) (fun h => Nat.le_trans sW h)
      clear HFK b4 hvq up4 dn4 PQ D4
      go_wp2_with fail
      ((refine HRF.out.mono ?_); rintro e' w5 ⟨S, xs, cs, vs, ms5, rfl, b5, hS, hvs, up5, dn5, RS⟩)
      have hfS : ∀ g, foot S vs g → w4.heap.size ≤ g := fun g e => e.elim (fun e => by rw [e]; exact hS) (hvs g)
      have K5 : Chg (fun _ => False) w4 w5 := Chg.ofBelow b5
      have F5 : Four w5 ms5 P w3.heap.size Q S xf x0 xq xs cf c0 cq cs fl (k : Int) (k : Int) (k : Int) (k : Int) vp vr vq vs lp lr lp lr := ⟨HD4.out.far K5 (fun _ h => h.elim) (fun _ h => h.elim) (fun _ h => h.elim) up5 dn5 RS.msl, ⟨HPQ.out.far K5 (fun _ h => h.elim) (fun _ h => h.elim) up5 dn5 RS.msl, RS, fun g e k => by have := HPQ.out.footL g e; have := hfS g k; omega⟩, fun g e k => by have := hfQ.out g e; have := HD.out.p.footL g k; omega, fun g e k => by have := hfQ.out g e; have := HD.out.r.footL g k; omega, fun g e k => by have := hfS g e; have := HD4.out.p.footL g k; omega, fun g e k => by have := hfS g e; have := HD4.out.r.footL g k; omega⟩
      have HF5 := Lib.hid F5
      have HC5 := Lib.hid (HC4.out.trans (b5.mono HC4.out.size))
      have HM5 : Hid (∀ g, ms5 g → w.heap.size ≤ g) := fun g h => (dn5 g h).elim (HM4.out g) (fun h => Nat.le_trans HC4.out.size h)
      clear HRF b5 hvs up5 dn5 RS hfS K5 F5 HD HD4 HPQ hfQ HC4 HM4 HMS HB
      go_wp2_with fail
      go_loopw [71] (fun iv w6 => ∃ (j : Nat) (vq vs : Value) (lq ls : List Itm) (ms6 : Nat → Prop), iv = .int .i64 (j : Int) ∧ j ≤ m ∧ Below w.heap.size w w6 ∧ (∀ g, ms6 g → w.heap.size ≤ g) ∧ Four w6 ms6 P w3.heap.size Q S xf x0 xq xs cf c0 cq cs fl (k : Int) (k : Int) ((k + j : Nat) : Int) ((k + j : Nat) : Int) vp vr vq vs lp lr lq ls ∧ Alike lq ls (2 * k + 2 * j)) (fun iv _ => (m - Lib.intOf iv).toNat)
      case atStart => exact ⟨0, vq, vs, lp, lr, ms5, rfl, Nat.zero_le _, HC5.out, HM5.out, HF5.out, HAL.out⟩
      case round =>
        obtain ⟨j, vq, vs, lq, ls, ms6, rfl, hj, hbel, hms6, hfour, hal⟩ := hrel
        have HB6 := Lib.hid hbel
        have HM6 := Lib.hid hms6
        have HF6 := Lib.hid hfour
        have HAL6 := Lib.hid hal
        have sW6 := hbel.size
        have hls := hal.len
        have hlq := hal.lenP
        clear hbel hms6 hfour hal
        by_cases hjm : j < m
        case neg =>
          have hje : j = m := by omega
          subst hje
          have dj : decide ((j : Int) < (j : Int)) = false := decide_eq_false (by omega)
          go_wp2_with fail
          obtain ⟨X, hX⟩ : ∃ X, X = wr.drew := ⟨_, rfl⟩
          have KX : Chg (fun _ => False) wr X := by rw [hX]; exact Chg.drew' (Chg.refl _ _)
          have sX := KX.size
          have FX := HF6.out.far (ms' := ms6) KX (fun _ h => h) (fun _ h => .inl h) (fun g h => Nat.lt_of_lt_of_le (HF6.out.a.p.msl g h) sX)
          have HQw : Hid (w.heap.size ≤ Q) := HM6.out Q FX.b.p.mine
          have HSw : Hid (w.heap.size ≤ S) := HM6.out S FX.b.r.mine
          have lS : S < X.heap.size := FX.b.r.row.lt
          have lQ : Q < X.heap.size := FX.b.p.row.lt
          have cX : Below w.heap.size w X := HB6.out.trans (KX.below HB6.out.size (fun i h => h.elim))
          have rX : (fun W => ∃ u, RowIs W w3.heap.size 60 #[.slice x0 nf c0, u, .int .i64 (k : Int)]) X := ⟨_, by have := FX.a.r.row; rwa [HNF.out] at this⟩
          have HSD : Hid (∀ g, g = Q → ¬ foot S vs g) := fun g h e => FX.b.d g (.inl h) e
          have hRQ : ¬ w3.heap.size = Q := fun h => FX.rq Q (.inl rfl) (.inl h.symm)
          have hRS : ¬ w3.heap.size = S := fun h => FX.rs S (.inl rfl) (.inl h.symm)
          have hRP : ¬ w3.heap.size = P := fun h => FX.a.d P (.inl rfl) (.inl h.symm)
          refine wp_region_held_drew (S := (fun W => ∃ u, RowIs W w3.heap.size 60 #[.slice x0 nf c0, u, .int .i64 (k : Int)])) (by kernel_rfl) (by rw [← hX]; exact rX) (fun hHeld => ?_)
          rw [← hX]
          clear hHeld hX
          have HFX := Lib.hid FX
          obtain ⟨yq, dq, hvq6, RQ⟩ := FX.b.p.rd
          have CQ := pComeX ms6 Q _ _ yq dq lq 18446744073709551615 (by omega) HAL6.out.okP X FX.b.p.msl RQ
          rw [comeTop lq (fun d hd => (FX.b.p.its d hd).1), List.take_length] at CQ
          have HCQ := Lib.hid CQ
          have HCX := Lib.hid cX
          clear FX RQ CQ cX KX
          refine wpAnyH_take (i := 0) (oi := _) (v := (.pointer (some ⟨Q, 0, none⟩))) rfl (by kernel_rfl) (by kernel_rfl) (by kernel_rfl) (fun _ _ _ h => h) (Or.inl ⟨by rfl, fun w hS => by go_simp⟩) rX ?_
          simp [Act.put]
          refine wpAnyH_take (i := 2) (oi := _) (v := (.pointer (some ⟨S, 0, none⟩))) rfl (by kernel_rfl) (by kernel_rfl) (by kernel_rfl) (fun _ _ _ h => h) (Or.inl ⟨by rfl, fun w hS => by go_simp⟩) rX ?_
          simp [Act.put]
          refine wpAnyH_ready (rs := [1]) (by kernel_rfl) (by simp) ?_
          refine AllReadyH.cons (o := _) rfl (fun K hK => ?_) AllReadyH.nil
          go_simp
          refine (HCQ.out).mono ?_; rintro e' wa ⟨va, xa1, ca1, rfl, Ka, _, La, _⟩
          go_simp
          have sa := Ka.size
          have ra : (fun W => ∃ u, RowIs W w3.heap.size 60 #[.slice x0 nf c0, u, .int .i64 (k : Int)]) wa := rX.imp fun u h => Ka.row h hRQ
          have RSa := HFX.out.b.r.far (ms' := ms6) Ka (fun g h => by rw [h]; exact HFX.out.b.p.mine) HSD.out (fun _ h => h) (fun _ h => .inl h) (fun g h => Nat.lt_of_lt_of_le (HFX.out.a.p.msl g h) sa)
          have PPa := HFX.out.a.p.far (ms' := ms6) Ka (fun g h => by rw [h]; exact HFX.out.b.p.mine) (fun g h e => HFX.out.pq g (.inl h) e) (fun _ h => h) (fun _ h => .inl h) (fun g h => Nat.lt_of_lt_of_le (HFX.out.a.p.msl g h) sa)
          have PRa := HFX.out.a.r.far (ms' := ms6) Ka (fun g h => by rw [h]; exact HFX.out.b.p.mine) (fun g h e => HFX.out.rq g (.inl h) e) (fun _ h => h) (fun _ h => .inl h) (fun g h => Nat.lt_of_lt_of_le (HFX.out.a.p.msl g h) sa)
          have CS := rCome ms6 S xs cs fl _ vs ls (by omega) HAL6.out.okR wa RSa
          rw [HAL6.out.bs] at CS
          have HCS := Lib.hid CS
          have HPPa := Lib.hid PPa
          have HPRa := Lib.hid PRa
          have HLa := Lib.hid La
          have HCa := Lib.hid (HCX.out.trans (Ka.below HCX.out.size (fun i h => by rw [h]; exact HQw.out)))
          refine hK.out _ _ ra (fun hH => ?_)
          clear hK K hH CS RSa PPa PRa La Ka rX
          refine wpAnyH_ready (rs := [3]) (by kernel_rfl) (by simp) ?_
          refine AllReadyH.cons (o := _) rfl (fun K hK => ?_) AllReadyH.nil
          go_simp
          refine (HCS.out).mono ?_; rintro e' wb ⟨vb, rfl, Kb, Lb, _⟩
          go_simp
          have sb := Kb.size
          have rb : (fun W => ∃ u, RowIs W w3.heap.size 60 #[.slice x0 nf c0, u, .int .i64 (k : Int)]) wb := ra.imp fun u h => Kb.row h hRS
          have PPb := HPPa.out.far (ms' := ms6) Kb (fun g h => by rw [h]; exact HFX.out.b.r.mine) (fun g h e => HFX.out.ps g (.inl h) e) (fun _ h => h) (fun _ h => .inl h) (fun g h => Nat.lt_of_lt_of_le (HPPa.out.msl g h) sb)
          have PRb := HPRa.out.far (ms' := ms6) Kb (fun g h => by rw [h]; exact HFX.out.b.r.mine) (fun g h e => HFX.out.rs g (.inl h) e) (fun _ h => h) (fun _ h => .inl h) (fun g h => Nat.lt_of_lt_of_le (HPPa.out.msl g h) sb)
          have La2 := HLa.out.far Kb (fun g h => by rw [h]; exact HFX.out.b.r.mine) (fun g e h => by have := HLa.out.ge g e; omega)
          obtain ⟨za, ca, rfl, hza, _, LAa⟩ := La2.lst
          obtain ⟨zb, cb, rfl, hzb, _, LAb⟩ := Lb.lst
          have CL := rSameLists za zb ca cb (lq.map (·.bs)) (by rw [List.length_map]; omega) hza hzb wb LAa LAb
          have HCL := Lib.hid CL
          obtain ⟨nl, hnl⟩ : ∃ n, (lq.map (·.bs)).length = n := ⟨_, rfl⟩
          rw [hnl] at HCL ⊢
          have HPPb := Lib.hid PPb
          have HPRb := Lib.hid PRb
          have HCb := Lib.hid (HCa.out.trans (Kb.below HCa.out.size (fun i h => by rw [h]; exact HSw.out)))
          refine hK.out _ _ rb (fun hH => ?_)
          clear hK K hH PPb PRb La2 Lb LAa LAb hza hzb CL Kb ra hnl
          refine wpAnyH_ready (rs := [4]) (by kernel_rfl) (by simp) ?_
          refine AllReadyH.cons (o := _) rfl (fun K hK => ?_) AllReadyH.nil
          go_simp
          refine (HCL.out).mono ?_; rintro e' wc ⟨rfl, bc⟩
          go_simp
          have Kc : Chg (fun _ => False) wb wc := Chg.ofBelow bc
          have sc := Kc.size
          have rc : (fun W => ∃ u, RowIs W w3.heap.size 60 #[.slice x0 nf c0, u, .int .i64 (k : Int)]) wc := rb.imp fun u h => Kc.row h (fun h => h)
          have PPc := HPPb.out.far (ms' := ms6) Kc (fun g h => h.elim) (fun g h => h.elim) (fun _ h => h) (fun _ h => .inl h) (fun g h => Nat.lt_of_lt_of_le (HPPb.out.msl g h) sc)
          have PRc := HPRb.out.far (ms' := ms6) Kc (fun g h => h.elim) (fun g h => h.elim) (fun _ h => h) (fun _ h => .inl h) (fun g h => Nat.lt_of_lt_of_le (HPPb.out.msl g h) sc)
          have HCc := Lib.hid (HCb.out.trans (bc.mono HCb.out.size))
          have HCN := Lib.hid (pCount P _ _ _ wc PPc.row)
          have HPPc := Lib.hid PPc
          have HPRc := Lib.hid PRc
          refine hK.out _ _ rc (fun hH => ?_)
          clear hK K hH PPc PRc Kc bc rb
          refine wpAnyH_take (i := 5) (oi := _) (v := (.bool true)) rfl (by kernel_rfl) (by kernel_rfl) (by kernel_rfl) (fun _ _ _ h => h) (Or.inl ⟨by rfl, fun w hS => by go_simp⟩) rc ?_
          simp [Act.put]
          refine wpAnyH_take (i := 6) (oi := _) (v := (.pointer (some ⟨P, 0, none⟩))) rfl (by kernel_rfl) (by kernel_rfl) (by kernel_rfl) (fun _ _ _ h => h) (Or.inl ⟨by rfl, fun w hS => by go_simp⟩) rc ?_
          simp [Act.put]
          refine wpAnyH_take (i := 8) (oi := _) (v := (.pointer (some ⟨w3.heap.size, 0, none⟩))) rfl (by kernel_rfl) (by kernel_rfl) (by kernel_rfl) (fun _ _ _ h => h) (Or.inl ⟨by rfl, fun w hS => by go_simp⟩) rc ?_
          simp [Act.put]
          refine wpAnyH_take (i := 9) (oi := _) (v := (.pointer (some ⟨w3.heap.size, 0, none⟩))) rfl (by kernel_rfl) (by kernel_rfl) (by kernel_rfl) (fun _ _ _ h => h) (Or.inl ⟨by rfl, fun w hS => by go_simp⟩) rc ?_
          simp [Act.put]
          refine wpAnyH_take (i := 10) (oi := _) (v := (.pointer (some ⟨w3.heap.size, 2, none⟩))) rfl (by kernel_rfl) (by kernel_rfl) (by kernel_rfl) (fun _ _ _ h => h) (Or.inl ⟨by rfl, fun w hS => by go_simp⟩) rc ?_
          simp [Act.put]
          refine wpAnyH_take (i := 11) (oi := _) (v := (.int .i64 (k : Int))) rfl (by kernel_rfl) (by kernel_rfl) (by kernel_rfl) (fun _ _ _ h => h) (Or.inl ⟨by rfl, fun w hS => by obtain ⟨u, hS⟩ := hS; have hc2 := RowIs.cell hS 2; have hlt := RowIs.lt hS; simp at hc2; clear hS; go_simp⟩) rc ?_
          simp [Act.put]
          refine wpAnyH_ready (rs := [7]) (by kernel_rfl) (by simp) ?_
          refine AllReadyH.cons (o := _) rfl (fun K hK => ?_) AllReadyH.nil
          go_simp
          refine (HCN.out).mono ?_; rintro e' wc1 ⟨rfl, rfl⟩
          go_simp
          obtain ⟨xp, cp, hvp6, RP⟩ := HPPc.out.rd
          have CP := pComeX ms6 P _ _ xp cp lp 18446744073709551615 (by omega) HAL.out.okP wc HPPc.out.msl RP
          rw [comeTop lp (fun d hd => (HPPc.out.its d hd).1), List.take_length] at CP
          have HCP := Lib.hid CP
          refine hK.out _ _ rc (fun hH => ?_)
          clear hK K hH CP RP
          refine wpAnyH_take (i := 12) (oi := _) (v := (.bool true)) rfl (by kernel_rfl) (by kernel_rfl) (by kernel_rfl) (fun _ _ _ h => h) (Or.inl ⟨by rfl, fun w hS => by go_simp⟩) rc ?_
          simp [Act.put]
          refine wpAnyH_take (i := 13) (oi := _) (v := (.bool true)) rfl (by kernel_rfl) (by kernel_rfl) (by kernel_rfl) (fun _ _ _ h => h) (Or.inl ⟨by rfl, fun w hS => by go_simp⟩) rc ?_
          simp [Act.put]
          refine wpAnyH_take (i := 14) (oi := _) (v := (.bool true)) rfl (by kernel_rfl) (by kernel_rfl) (by kernel_rfl) (fun _ _ _ h => h) (Or.inl ⟨by rfl, fun w hS => by go_simp⟩) rc ?_
          simp [Act.put]
          refine wpAnyH_take (i := 15) (oi := _) (v := (.pointer (some ⟨P, 0, none⟩))) rfl (by kernel_rfl) (by kernel_rfl) (by kernel_rfl) (fun _ _ _ h => h) (Or.inl ⟨by rfl, fun w hS => by go_simp⟩) rc ?_
          simp [Act.put]
          refine wpAnyH_take (i := 17) (oi := _) (v := (.pointer (some ⟨w3.heap.size, 0, none⟩))) rfl (by kernel_rfl) (by kernel_rfl) (by kernel_rfl) (fun _ _ _ h => h) (Or.inl ⟨by rfl, fun w hS => by go_simp⟩) rc ?_
          simp [Act.put]
          refine wpAnyH_ready (rs := [16]) (by kernel_rfl) (by simp) ?_
          refine AllReadyH.cons (o := _) rfl (fun K hK => ?_) AllReadyH.nil
          go_simp
          refine (HCP.out).mono ?_; rintro e' wd ⟨vd, xd1, cd1, rfl, Kd, _, Ld, _⟩
          go_simp
          have sd := Kd.size
          have rd : (fun W => ∃ u, RowIs W w3.heap.size 60 #[.slice x0 nf c0, u, .int .i64 (k : Int)]) wd := rc.imp fun u h => Kd.row h hRP
          have PRd := HPRc.out.far (ms' := ms6) Kd (fun g h => by rw [h]; exact HPPc.out.mine) (fun g h e => HFX.out.a.d g (.inl h) e) (fun _ h => h) (fun _ h => .inl h) (fun g h => Nat.lt_of_lt_of_le (HPPc.out.msl g h) sd)
          have CR := rCome ms6 w3.heap.size x0 c0 fl _ vr lr (by omega) HAL.out.okR wd PRd
          rw [HAL.out.bs, HNF.out] at CR
          have HCR := Lib.hid CR
          have HLd := Lib.hid Ld
          have HCd := Lib.hid (HCc.out.trans (Kd.below HCc.out.size (fun i h => by rw [h]; exact HPW.out)))
          have HRm : Hid (ms6 w3.heap.size) := PRd.mine
          have HRl : Hid (w3.heap.size < wc.heap.size) := HPRc.out.row.lt
          refine hK.out _ _ rd (fun hH => ?_)
          clear hK K hH CR PRd Ld Kd rc
          refine wpAnyH_ready (rs := [18]) (by kernel_rfl) (by simp) ?_
          refine AllReadyH.cons (o := _) rfl (fun K hK => ?_) AllReadyH.nil
          go_simp
          refine (HCR.out).mono ?_; rintro e' we ⟨ve, rfl, Ke, Le, re⟩
          go_simp
          have se := Ke.size
          have Ld2 := HLd.out.far Ke (fun g h => by rw [h]; exact HRm.out) (fun g e h => by have := HLd.out.ge g e; have := HRl.out; omega)
          obtain ⟨zd, cd, rfl, hzd, _, LAd⟩ := Ld2.lst
          obtain ⟨ze, ce, rfl, hze, _, LAe⟩ := Le.lst
          have CM := rSameLists zd ze cd ce (lp.map (·.bs)) (by rw [List.length_map]; omega) hzd hze we LAd LAe
          have HCM := Lib.hid CM
          obtain ⟨nm, hnm⟩ : ∃ n, (lp.map (·.bs)).length = n := ⟨_, rfl⟩
          rw [hnm] at HCM ⊢
          have HCe := Lib.hid (HCd.out.trans (Ke.below HCd.out.size (fun i h => by rw [h, ← HRE.out]; exact HRW.out)))
          refine hK.out _ _ re (fun hH => ?_)
          clear hK K hH Ld2 Le LAd LAe hzd hze CM Ke rd hnm
          refine wpAnyH_ready (rs := [19]) (by kernel_rfl) (by simp) ?_
          refine AllReadyH.cons (o := _) rfl (fun K hK => ?_) AllReadyH.nil
          go_simp
          refine (HCM.out).mono ?_; rintro e' wf ⟨rfl, bf⟩
          go_simp
          have Kf : Chg (fun _ => False) we wf := Chg.ofBelow bf
          have rf : (fun W => ∃ u, RowIs W w3.heap.size 60 #[.slice x0 nf c0, u, .int .i64 (k : Int)]) wf := re.imp fun u h => Kf.row h (fun h => h)
          have HCf := Lib.hid (HCe.out.trans (bf.mono HCe.out.size))
          refine hK.out _ _ rf (fun hH => ?_)
          clear hK K hH Kf bf re
          refine wpAnyH_take (i := 20) (oi := _) (v := (.bool true)) rfl (by kernel_rfl) (by kernel_rfl) (by kernel_rfl) (fun _ _ _ h => h) (Or.inl ⟨by rfl, fun w hS => by go_simp⟩) rf ?_
          simp [Act.put]
          refine wpAnyH_take (i := 21) (oi := _) (v := (.bool true)) rfl (by kernel_rfl) (by kernel_rfl) (by kernel_rfl) (fun _ _ _ h => h) (Or.inl ⟨by rfl, fun w hS => by go_simp⟩) rf ?_
          simp [Act.put]
          refine wpAnyH_done (by kernel_rfl) ?_ _
          go_wp2_with fail
          go_ret
          exact ⟨rfl, HCf.out⟩
        have dj : decide ((j : Int) < (m : Int)) = true := decide_eq_true (by omega)
        have hjI : (j : Int) < (m : Int) := by omega
        have hjl : j < mo.length := by rw [HMN.out]; exact hjm
        obtain ⟨g, o, rfl, hgl, hcell⟩ : ∃ g o, y = some ⟨g, o, none⟩ ∧ PutsAt w g o mo := by
          rcases HM.out.1 with h | h
          · rw [h] at hjl; simp at hjl
          · exact h
        obtain ⟨d, hd⟩ : ∃ d, mo.getD j zP = d := ⟨_, rfl⟩
        have hmem : d ∈ mo := by rw [← hd, List.getD_eq_getElem?_getD, List.getElem?_eq_getElem hjl]; exact List.getElem_mem _
        have HOK := Lib.hid (HM.out.2 d hmem)
        obtain ⟨q0, _, _⟩ := hcell j hjl
        rw [hd] at q0
        obtain ⟨bx, bc, hdv⟩ := BodyAt.form HOK.out.body
        rw [hdv] at q0
        have Q0 := Lib.hid q0
        have p0 := (HB6.out.cell (p := ⟨g, o + j * 3, none⟩) hgl).trans q0
        have HB0 : Hid (BodyAt w (.slice bx d.bs.length bc) d.bs) := by rw [← hdv]; exact HOK.out.body
        have HBF : Hid (BodyF wr ms6 (.slice bx d.bs.length bc) d.bs) := ⟨HB0.out.below HB6.out, fun hne b e => fun hm => by
          have := body_lt2 HB0.out hne b e
          have := HM6.out b hm
          omega⟩
        have HBY := Lib.hid HOK.out.byte
        have HLB := Lib.hid HOK.out.len
        have hw1 : IntKind.i64.wrap (100 + (j : Int)) = 100 + (j : Int) := by rw [IntKind.wrap_i64]; omega
        have hw2 : IntKind.u64.wrap (100 + (j : Int)) = 100 + (j : Int) := by rw [IntKind.wrap_u64]; omega
        have hWT : Hid (W64 (100 + (j : Int))) := by unfold W64; exact ⟨by omega, by omega⟩
        have hfn9 : fl.length ≤ 9223372036854775807 := by have := HFB.out; omega
        have HF9 := Lib.hid hfn9
        clear hcell q0 hdv hmem hfn9
        go_wp2_with fail
        ((refine (pPut ms6 Q xq cq fl (k + j) vq lq bx d.bs.length bc d.bs (100 + (j : Int)) HBY.out HLB.out hWT.out HFD.out HF9.out (by omega) (by omega) wr HF6.out.b.p HBF.out).mono ?_); rintro e' w7 ⟨rfl, v7, l7, ms7, K7, o7, u7', d7, PA7, e7⟩)
        have D7 := HF6.out.stepQ K7 o7 u7' d7 PA7
        have BF7 : BodyF w7 ms7 (.slice bx d.bs.length bc) d.bs := HBF.out.chg K7 (fun i _ h => HF6.out.b.p.foot i h) (fun i hi h => (d7 i h).elim (fun h => h) (fun h => absurd hi (Nat.not_lt.mpr h)))
        have c7 : Below w.heap.size w w7 := HB6.out.trans (K7.below sW6 (fun i h => HM6.out i (HF6.out.b.p.foot i h)))
        have p7 := (c7.cell (p := ⟨g, o + j * 3, none⟩) hgl).trans Q0.out
        have s7 := c7.size
        have HM7 : Hid (∀ g, ms7 g → w.heap.size ≤ g) := fun g h => (d7 g h).elim (HM6.out g) (fun h => Nat.le_trans sW6 h)
        have HD7 := Lib.hid D7
        have HBF7 := Lib.hid BF7
        have HC7 := Lib.hid c7
        have HE7 := Lib.hid e7
        clear K7 o7 u7' d7 PA7 D7 BF7 c7 e7 p0
        go_wp2_with fail
        ((refine (rPut ms7 S xs cs fl (k + j) vs ls bx d.bs.length bc d.bs (100 + (j : Int)) HBY.out HLB.out hWT.out HFD.out HF9.out (by omega) (by omega) w7 HD7.out.b.r HBF7.out).mono ?_); rintro e' w8 ⟨rfl, v8, l8, ms8, K8, o8, u8', d8, RA8, e8⟩)
        have D8 := HD7.out.stepS K8 o8 u8' d8 RA8
        have c8 : Below w.heap.size w w8 := HC7.out.trans (K8.below s7 (fun i h => HM7.out i (HD7.out.b.r.foot i h)))
        have HM8 : Hid (∀ g, ms8 g → w.heap.size ≤ g) := fun g h => (d8 g h).elim (HM7.out g) (fun h => Nat.le_trans s7 h)
        have AL8 := HAL6.out.put HBY.out HLB.out HE7.out e8
        rw [show ((k + j : Nat) : Int) + 1 = ((k + (j + 1) : Nat) : Int) by omega] at D8
        have HD8 := Lib.hid D8
        have HC8 := Lib.hid c8
        have HAL8 := Lib.hid AL8
        clear K8 o8 u8' d8 RA8 D8 c8 e8 AL8 p7
        go_wp2_with fail
        go_roundw
        case rel => exact ⟨j + 1, v7, v8, l7, l8, ms8, by simp, by omega, HC8.out, HM8.out, HD8.out, HAL8.out⟩
        case measure =>
          simp [Lib.intOf]
          omega
    have dk : decide ((k : Int) < (n : Int)) = true := decide_eq_true (by omega)
    have hkI : (k : Int) < (n : Int) := by omega
    have hkl : k < l.length := by rw [HN.out]; exact hkn
    obtain ⟨g, o, rfl, hgl, hcell⟩ : ∃ g o, x = some ⟨g, o, none⟩ ∧ PutsAt w g o l := by
      rcases HP.out.1 with h | h
      · rw [h] at hkl; simp at hkl
      · exact h
    obtain ⟨d, hd⟩ : ∃ d, l.getD k zP = d := ⟨_, rfl⟩
    have hmem : d ∈ l := by rw [← hd, List.getD_eq_getElem?_getD, List.getElem?_eq_getElem hkl]; exact List.getElem_mem _
    have HOK := Lib.hid (HP.out.2 d hmem)
    obtain ⟨q0, _, _⟩ := hcell k hkl
    rw [hd] at q0
    obtain ⟨bx, bc, hdv⟩ := BodyAt.form HOK.out.body
    rw [hdv] at q0
    have Q0 := Lib.hid q0
    have p0 := (HB.out.cell (p := ⟨g, o + k * 3, none⟩) hgl).trans q0
    have HB0 : Hid (BodyAt w (.slice bx d.bs.length bc) d.bs) := by rw [← hdv]; exact HOK.out.body
    have HBF : Hid (BodyF wr ms (.slice bx d.bs.length bc) d.bs) := ⟨HB0.out.below HB.out, fun hne b e => fun hm => by
      have := body_lt2 HB0.out hne b e
      have := HMS.out b hm
      omega⟩
    have HBY := Lib.hid HOK.out.byte
    have HLB := Lib.hid HOK.out.len
    have hw1 : IntKind.u64.wrap (k : Int) = (k : Int) := by rw [IntKind.wrap_u64]; omega
    have hWT : Hid (W64 (k : Int)) := by unfold W64; exact ⟨by omega, by omega⟩
    have hfn9 : fl.length ≤ 9223372036854775807 := by have := HFB.out; omega
    have HF9 := Lib.hid hfn9
    clear hcell q0 hdv hmem hfn9
    go_wp2_with fail
    ((refine (pPut ms P xf cf fl k vp lp bx d.bs.length bc d.bs (k : Int) HBY.out HLB.out hWT.out HFD.out HF9.out (by omega) (by omega) wr HD.out.p HBF.out).mono ?_); rintro e' w4 ⟨rfl, v4, l4, ms4, K4, o4, u4', d4, PA4, e4⟩)
    have D4 := HD.out.stepP K4 o4 u4' d4 PA4
    have BF4 : BodyF w4 ms4 (.slice bx d.bs.length bc) d.bs := HBF.out.chg K4 (fun i _ h => HD.out.p.foot i h) (fun i hi h => (d4 i h).elim (fun h => h) (fun h => absurd hi (Nat.not_lt.mpr h)))
    have c4 : Below w.heap.size w w4 := HB.out.trans (K4.below sW (fun i h => HMS.out i (HD.out.p.foot i h)))
    have p4 := (c4.cell (p := ⟨g, o + k * 3, none⟩) hgl).trans Q0.out
    have s4 := c4.size
    have HM4 : Hid (∀ g, ms4 g → w.heap.size ≤ g) := fun g h => (d4 g h).elim (HMS.out g) (fun h => Nat.le_trans sW h)
    have HD4 := Lib.hid D4
    have HBF4 := Lib.hid BF4
    have HC4 := Lib.hid c4
    have HE4 := Lib.hid e4
    clear K4 o4 u4' d4 PA4 D4 BF4 c4 e4 p0
    go_wp2_with fail
    ((refine (rPut ms4 w3.heap.size x0 c0 fl k vr lr bx d.bs.length bc d.bs (k : Int) HBY.out HLB.out hWT.out HFD.out HF9.out (by omega) (by omega) w4 HD4.out.r HBF4.out).mono ?_); rintro e' w5 ⟨rfl, v5, l5, ms5, K5, o5, u5', d5, RA5, e5⟩)
    have D5 := HD4.out.stepR K5 o5 u5' d5 RA5
    have c5 : Below w.heap.size w w5 := HC4.out.trans (K5.below s4 (fun i h => HM4.out i (HD4.out.r.foot i h)))
    have HM5 : Hid (∀ g, ms5 g → w.heap.size ≤ g) := fun g h => (d5 g h).elim (HM4.out g) (fun h => Nat.le_trans s4 h)
    have AL5 := HAL.out.put HBY.out HLB.out HE4.out e5
    have HD5 := Lib.hid D5
    have HC5 := Lib.hid c5
    have HAL5 := Lib.hid AL5
    clear K5 o5 u5' d5 RA5 D5 c5 e5 AL5 p4
    go_wp2_with fail
    go_roundw
    case rel => exact ⟨k + 1, v4, v5, l4, l5, ms5, by simp, by omega, HC5.out, HM5.out, by simpa using HD5.out, HAL5.out⟩
    case measure =>
      simp [Lib.intOf]
      omega

theorem walk (a0 : Option Addr) (len0 cap0 : Nat) (a1 : Option Addr) (len1 cap1 : Nat) (a2 : Option Addr) (len2 cap2 : Nat) (w : World) (h0 : ∃ l : List FateP, l.length = len0 ∧ (a0 = none → l = []) ∧ FRow w a0 l ∧ (∀ d ∈ l, W64 d.delay) ∧ l.length * 16 ≤ 140737488355328) (h1 : ∃ l : List PutP, l.length = len1 ∧ PutsRow w a1 l ∧ len1 ≤ 9223372036854775807) (h2 : ∃ l : List PutP, l.length = len2 ∧ PutsRow w a2 l ∧ len2 ≤ 9223372036854775807) :
    Calls Try.prog 7 #[.slice a0 len0 cap0, .slice a1 len1 cap1, .slice a2 len2 cap2] w fun e w' => e = .returned (.bool true) ∧ Below w.heap.size w w' := by
  obtain ⟨fl, rfl, hx, hF, hd, hb⟩ := h0
  obtain ⟨l, rfl, hP, h9⟩ := h1
  obtain ⟨mo, rfl, hM, m9⟩ := h2
  exact walkN a0 cap0 fl hx hd hb a1 cap1 l h9 a2 cap2 mo m9 w hF hP hM

/-! ### the row's step -/
set_option maxRecDepth 100000 in
theorem lifted (os : Os) (started : os.Started) (H : Type) (enc : TypeId × Value → H) :
    ReturnsInHanded {} Try.checked os 7 .any (Rows.pathForksSpec.pre6 enc Try.prog Try.f7 Rows.pathForksRow.domain false) (Rows.pathForksSpec.post enc Try.prog Try.f7 false true false false) := by
  refine returnsInHanded_of_change_sized (C := Try.checked) own started (by kernel_rfl) Try.func7
    (ChangeSpec.witness6 (enc := enc) (C := Try.checked) false ⟨#[], #[.slice none 0 0, .slice none 0 0, .slice none 0 0], []⟩ 8 (by kernel_rfl) (by kernel_rfl) (by kernel_rfl) (by kernel_rfl)) ?_
  intro W base args ds gs before hval0 hW hcnd hsz0 _
  have hsz : (DataW.weightsEach Try.prog (Try.f7.params.toList ++ Rows.pathForksSpec.plain.varTypes Try.prog) (ds ++ gs)).all (· ≤ reachBytes) = true := hsz0
  clear hsz0
  have hval : ∀ (j : Nat) t v, Try.f7.params[j]? = some t → args[j]? = some v → Value.okWide Try.prog W .any base t v := hval0
  have hW' := hW
  obtain ⟨p, q, hA0, hV, rfl, hfz, hnd⟩ := hW
  have hA : DataW.TrodAll enc Try.prog W 0 (fun _ => true) true Try.f7.params.toList args.toList ds p := hA0
  rw [Try.params7] at hA hval hsz
  obtain ⟨v0, vs0, d0, ds0, p0, q0, hargs, rfl, rfl, h0, r0⟩ := trodAll_cons hA
  obtain ⟨v1, vs1, d1, ds1, p1, q1, rfl, rfl, rfl, h1, r1⟩ := trodAll_cons r0
  obtain ⟨v2, vs2, d2, ds2, p2, q2, rfl, rfl, rfl, h2, r2⟩ := trodAll_cons r1
  obtain ⟨rfl, rfl, rfl⟩ := trodAll_nil r2
  obtain rfl : args = #[v0, v1, v2] := by cases args; simp_all
  obtain ⟨rfl, rfl⟩ := trodVars_none hV
  obtain ⟨a0, len0, cap0, rfl⟩ := okWide_slice Try.underlying53 (hval 0 53 v0 rfl rfl)
  have k0 := h0
  have lt0 : ∀ x ∈ p0, x.block < W.heap.size := by obtain ⟨m, hm⟩ := k0; exact DataW.trod_lt m _ _ _ hm
  have w0 : ∃ l : List FateP, l.length = len0 ∧ (a0 = none → l = []) ∧ FRow W a0 l ∧ (∀ d ∈ l, W64 d.delay) ∧ l.length * 16 ≤ 140737488355328 := by
    obtain ⟨fuel, hf⟩ := h0
    exact fates_of (by simpa [Value.cells] using hf) (sized_one hsz (j := 0) (t := 53) rfl rfl)
  obtain ⟨a1, len1, cap1, rfl⟩ := okWide_slice Try.underlying40 (hval 1 40 v1 rfl rfl)
  have k1 := h1
  have lt1 : ∀ x ∈ p1, x.block < W.heap.size := by obtain ⟨m, hm⟩ := k1; exact DataW.trod_lt m _ _ _ hm
  have w1 : ∃ l : List PutP, l.length = len1 ∧ PutsRow W a1 l ∧ len1 ≤ 9223372036854775807 := by
    obtain ⟨fuel, hf⟩ := h1
    exact puts_of (by simpa [Value.cells] using hf) (sized_one hsz (j := 1) (t := 40) rfl rfl)
  obtain ⟨a2, len2, cap2, rfl⟩ := okWide_slice Try.underlying40 (hval 2 40 v2 rfl rfl)
  have k2 := h2
  have lt2 : ∀ x ∈ p2, x.block < W.heap.size := by obtain ⟨m, hm⟩ := k2; exact DataW.trod_lt m _ _ _ hm
  have w2 : ∃ l : List PutP, l.length = len2 ∧ PutsRow W a2 l ∧ len2 ≤ 9223372036854775807 := by
    obtain ⟨fuel, hf⟩ := h2
    exact puts_of (by simpa [Value.cells] using hf) (sized_one hsz (j := 2) (t := 40) rfl rfl)
  clear hA0 hval0
  refine (walk a0 len0 cap0 a1 len1 cap1 a2 len2 cap2 W w0 w1 w2).mono fun e W' ⟨he, bel⟩ => ?_
  subst he
  exact ⟨_, rfl, _, _, _, [], _, [], hW', trodAll_mk1 (shut_bool Try.underlying4 _), (trodAll_cons_mk (Below.trod laidOut (by kernel_rfl) (of_decide_eq_true (by kernel_rfl)) k0 bel lt0) (trodAll_cons_mk (Below.trod laidOut (by kernel_rfl) (of_decide_eq_true (by kernel_rfl)) k1 bel lt1) (trodAll_cons_mk (Below.trod laidOut (by kernel_rfl) (of_decide_eq_true (by kernel_rfl)) k2 bel lt2) trodAll_mk0))), rfl, bel.frame _, fun h => by cases h⟩

theorem over : Rows.pathForksRow.holds Try.pinned (OpenSpec.ofChange Rows.pathForksSpec) :=
  OpenClaim.holds_of_wide 7 Try.f7 rfl rfl rfl rfl rfl rfl rfl ⟨rfl, rfl, rfl, rfl, rfl⟩ rfl rfl rfl rfl rfl (by kernel_rfl) Try.func7 (by kernel_rfl)
    (of_decide_eq_true (by kernel_rfl)) (by unfold Func.isWrapper; first | (rw [if_pos (by decide +kernel)]; kernel_rfl) | (rw [if_neg (by decide +kernel)]; exact ⟨rfl, rfl⟩))
    (fun os started H enc _ => lifted os started H enc)

/-- THE STATEMENT -/
theorem proved : Rows.PathForksSaid := over
end Go.Proofs.Ytikkmdbaekdolaa.pathForks
