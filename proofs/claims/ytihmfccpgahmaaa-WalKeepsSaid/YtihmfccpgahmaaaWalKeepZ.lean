/- The log on a disk whose power goes at a write or a sync: what Append, Force and Cut leave. Plain Lean. No conditions beyond those that are named. -/
import Derived.Test.YtihmfccpgahmaaaWalCr
import Derived.Test.YtihmfccpgahmaaaWKept
import Derived.Deep.AppendSrc
import Derived.Test.YtihmfccpgahmaaaDkConv
import Derived.Test.YtihmfccpgahmaaaOpen
import Derived.Test.YtihmfccpgahmaaaQ4
import Derived.Test.YtihmfccpgahmaaaWalNeeds
import Derived.Test.YtihmfccpgahmaaaBits
import Derived.Deep.CutRange
import Derived.Deep.CutBlock
import Derived.Deep.QuietTactic
import Derived.BigQuiet
namespace Go.Proofs.Ytihmfccpgahmaaa.Wal
open Go Go.RowKit
open Go.Proofs.YtihmfccpgahmaaaW.PrintWords hiding Kept Kept.refl
open Go.Proofs.YtihmfccpgahmaaaW.PrintMore Go.Proofs.YtihmfccpgahmaaaW.PrintLast Go.Proofs.Ytihmfccpgahmaaa.Dk Go.Proofs.Ytihmfccpgahmaaa.Q Go.Proofs.Ytihmfccpgahmaaa.Str Go.Proofs.Ytihmfccpgahmaaa.Leb
set_option linter.unusedVariables false
set_option linter.unusedSimpArgs false
/-- The disk with a fuse. -/
def fz (M : DA) (f : Int) : DA := { M with fuse := f }
/-- What is left of a fuse after n steps. -/
def lf (f : Int) (n : Int) : Int := if f = 0 then 0 else f - n
section
variable {M M' : DA} {N c : Nat} {L : LA} {es ws a b : List (Int × List Int)} {f : Int}
theorem fz_step (hM : Gd M N) (h0 : 0 ≤ f) (h1 : f ≠ 1) : (fz M f).step = fz M.step (lf f 1) ∧ (fz M f).stepE = 0 := by
  have e : (fz M f).fuse = f := rfl
  refine ⟨?_, by unfold DA.stepE; rw [e, if_neg h1]⟩
  rw [hM.step]
  unfold DA.step
  rw [if_neg (show ¬ (fz M f).fuse = 1 from h1)]
  unfold lf
  by_cases hf : f = 0
  · rw [if_neg (show ¬ 0 < (fz M f).fuse by rw [e]; omega), if_pos hf, hf]; rfl
  · rw [if_pos (show 0 < (fz M f).fuse by rw [e]; omega), if_neg hf]; rfl
theorem fz_wr (hM : Gd M N) (h0 : 0 ≤ f) (h1 : f ≠ 1) {i : Int} (i0 : 0 ≤ i) (i1 : i < N) {l : List Int} (hl : l.length ≤ 512) : (fz M f).wr i l = fz (M.wr i l) (lf f 1) ∧ (fz M f).wrE i l.length = 0 := by
  have ha := hM.ask i0 i1
  have ha2 : (fz M f).ask i = 0 := ha
  obtain ⟨s1, s2⟩ := fz_step hM h0 h1
  refine ⟨?_, ?_⟩
  · unfold DA.wr
    rw [if_pos ⟨ha2, hl⟩, if_pos ⟨ha, hl⟩, s1]
    rfl
  · unfold DA.wrE
    rw [ha2, if_neg (by omega), if_pos rfl]
    exact s2
theorem fz_wr1 (hM : Gd M N) {i : Int} (i0 : 0 ≤ i) (i1 : i < N) {l : List Int} (hl : l.length ≤ 512) : (fz M 1).wrE i l.length = 8 ∧ ((fz M 1).wr i l).down = true ∧ ((fz M 1).wr i l).wait = M.wait ++ [(i, l)] := by
  have ha : (fz M 1).ask i = 0 := hM.ask i0 i1
  refine ⟨?_, ?_, (wr_parts i l ha hl).2.2.2.2⟩
  · unfold DA.wrE
    rw [ha, if_neg (by omega), if_pos rfl]
    rfl
  · unfold DA.wr
    rw [if_pos ⟨ha, hl⟩]
    rfl
theorem lf_lf {n : Int} (hn : 0 ≤ n) (h0 : 0 ≤ f) (h : f = 0 ∨ n + 1 < f) : lf (lf f 1) n = lf f (n + 1) ∧ 0 ≤ lf f 1 ∧ (lf f 1 = 0 ∨ n < lf f 1) := by
  unfold lf
  by_cases hf : f = 0
  · rw [if_pos hf, if_pos rfl, if_pos hf]
    exact ⟨rfl, Int.le_refl _, .inl rfl⟩
  · rw [if_neg hf, if_neg hf]
    rcases h with h | h
    · exact absurd h hf
    · by_cases h2 : f - 1 = 0
      · rw [if_pos h2]
        omega
      · rw [if_neg h2]
        exact ⟨by omega, by omega, .inr (by omega)⟩
theorem app_fz : ∀ (k : Nat) (r : List Int) (L : LA) (M : DA) (f : Int), Gd M N → Geo L N → 0 ≤ L.next → L.next + needN r.length ≤ 9223372036854775807 → needN r.length ≤ k → 0 ≤ f → (f = 0 ∨ (needN r.length : Int) < f) →
    (L.app (fz M f) k r).L = (L.app M k r).L ∧ (L.app (fz M f) k r).M = fz (L.app M k r).M (lf f (needN r.length)) ∧ (L.app (fz M f) k r).e = 0
  | 0, r, L, M, f, hM, hg, h0, h1, h2, hf0, hf => by have := needN_pos r.length; omega
  | k + 1, r, L, M, f, hM, hg, h0, h1, h2, hf0, hf => by
    have hp := needN_pos r.length
    obtain ⟨p0, p1, _⟩ := hg.pl L.next
    have hl0 := hg.l0
    have hl1 := hg.l1
    have hlen : (secB L.next L.life (decide (r.length ≤ 480)) (r.take 480)).length ≤ 512 := sec_len (by omega) (by omega) (by rw [List.length_take]; omega)
    obtain ⟨B, hB⟩ : ∃ B, B = secB L.next L.life (decide (r.length ≤ 480)) (r.take 480) := ⟨_, rfl⟩
    rw [← hB] at hlen
    have hwe := hM.wrE p0 p1 hlen
    have hg1 := hM.wr p0 p1 hlen
    obtain ⟨w1, w2⟩ := fz_wr hM hf0 (by omega) p0 p1 hlen
    rw [app_succ, app_succ, ← hB, if_pos hwe, if_pos w2, w1]
    by_cases hl : r.length ≤ 480
    · rw [if_pos hl, if_pos hl, needN_one hl]
      exact ⟨rfl, rfl, rfl⟩
    · rw [if_neg hl, if_neg hl]
      have hn := needN_more (show 480 < r.length by omega)
      have hd : (r.drop 480).length = r.length - 480 := List.length_drop
      have hll := lf_lf (f := f) (n := (needN (r.length - 480) : Int)) (Int.natCast_nonneg _) hf0 (by omega)
      have ih := app_fz k (r.drop 480) L.app1 (M.wr (L.pl L.next) B) (lf f 1) hg1 ⟨hg.f0, hg.r0, hg.fn, hg.l0, hg.l1⟩ (by show 0 ≤ L.next + 1; omega) (by show L.next + 1 + _ ≤ _; rw [hd]; omega) (by rw [hd]; omega) hll.2.1 (by rw [hd]; exact hll.2.2)
      rw [hd, hll.1] at ih
      rw [hn]
      exact ih
/-- The fuse blows while an entry is laid. -/
theorem app_fz1 : ∀ (k : Nat) (r : List Int) (L : LA) (M : DA) (f : Int), Gd M N → Geo L N → 0 ≤ L.next → L.next + needN r.length ≤ 9223372036854775807 → needN r.length ≤ k → 1 ≤ f → f ≤ (needN r.length : Int) →
    (L.app (fz M f) k r).e = 8 ∧ (L.app (fz M f) k r).M.down = true ∧ (L.app (fz M f) k r).M.wait = M.wait ++ (L.wrs k r).take f.toNat
  | 0, r, L, M, f, hM, hg, h0, h1, h2, hf0, hf => by have := needN_pos r.length; omega
  | k + 1, r, L, M, f, hM, hg, h0, h1, h2, hf0, hf => by
    have hp := needN_pos r.length
    obtain ⟨p0, p1, _⟩ := hg.pl L.next
    have hl0 := hg.l0
    have hl1 := hg.l1
    have hlen : (secB L.next L.life (decide (r.length ≤ 480)) (r.take 480)).length ≤ 512 := sec_len (by omega) (by omega) (by rw [List.length_take]; omega)
    have hws : L.wrs (k + 1) r = (L.pl L.next, secB L.next L.life (decide (r.length ≤ 480)) (r.take 480)) :: (if r.length ≤ 480 then [] else L.app1.wrs k (r.drop 480)) := rfl
    rw [hws]
    obtain ⟨B, hB⟩ : ∃ B, B = secB L.next L.life (decide (r.length ≤ 480)) (r.take 480) := ⟨_, rfl⟩
    rw [← hB] at hlen ⊢
    by_cases h11 : f = 1
    · subst h11
      obtain ⟨w1, w2, w3⟩ := fz_wr1 hM p0 p1 hlen
      rw [app_succ, ← hB, if_neg (by rw [w1]; decide)]
      exact ⟨w1, w2, w3⟩
    · have hg1 := hM.wr p0 p1 hlen
      obtain ⟨w1, w2⟩ := fz_wr hM (by omega) h11 p0 p1 hlen
      rw [app_succ, ← hB, if_pos w2, w1]
      have hl : ¬ r.length ≤ 480 := fun hl => by rw [needN_one hl] at hf; omega
      rw [if_neg hl, if_neg hl]
      have hn := needN_more (show 480 < r.length by omega)
      have hd : (r.drop 480).length = r.length - 480 := List.length_drop
      have hlf : lf f 1 = f - 1 := if_neg (by omega)
      have ih := app_fz1 k (r.drop 480) L.app1 (M.wr (L.pl L.next) B) (lf f 1) hg1 ⟨hg.f0, hg.r0, hg.fn, hg.l0, hg.l1⟩ (by show 0 ≤ L.next + 1; omega) (by show L.next + 1 + _ ≤ _; rw [hd]; omega) (by rw [hd]; omega) (by rw [hlf]; omega) (by rw [hlf, hd]; omega)
      obtain ⟨i1, i2, i3⟩ := ih
      refine ⟨i1, i2, ?_⟩
      rw [i3, (wr_parts _ _ (hM.ask p0 p1) hlen).2.2.2.2, List.append_assoc, hlf]
      obtain ⟨m, hm⟩ : ∃ m, f.toNat = m + 1 := ⟨f.toNat - 1, by omega⟩
      rw [show (f - 1).toNat = m by omega, hm, List.take_succ_cons]
      rfl
/-- Of the waiting sectors only the first ones came. -/
theorem CI.few {Rs : Int → Part} {nx : Int} (h : CI N c L M es ws Rs nx) (hD : Dn M' N) (hY : DY M') (hs : M'.safe = M.safe) (hb : M'.bad = M.bad) {m : Nat} (hw : M'.wait = M.wait.take m) (hc : c ≤ 1000000) : CI N c L M' es ws Rs nx := by
  have hrd : L.rd (sdk M') = L.rd (sdk M) := funext fun n => by
    obtain ⟨p0, p1, _⟩ := (h.geo hc).pl n
    exact rd_cong (sdk_see h.D hD hs hb p0 p1)
  have hwl : M'.wait.length ≤ M.wait.length := by rw [hw]; exact List.length_take_le' ..
  refine { h with D := hD, Y := hY, eS := by rw [hrd]; exact h.eS, low := by rw [hrd]; exact h.low, no := by rw [hrd]; exact h.no, ma := h.ma.frame (fun n n0 n1 => sdk_see h.D hD hs hb (by have := h.f0; omega) (by have := h.fn; have := h.r0; omega)), wn := by have := h.wn; omega, wa := fun k hk => ?_ }
  have e : wk M' k = wk M k := by
    unfold wk
    rw [hw] at hk ⊢
    rw [List.getD_eq_getElem?_getD, List.getD_eq_getElem?_getD, List.getElem?_take, if_pos (by rw [List.length_take] at hk; omega)]
  rw [e]
  exact h.wa k (by omega)
/-- Append, with a fuse. -/
theorem LI.append_fz (h : LI N c L M es ws) (hc : c ≤ 100000) {b : List Int} (hb : Byt b) (hl : b.length ≤ 16384) (hr : (needN b.length : Int) ≤ L.free) (h0 : 0 ≤ f) :
    (∃ M', L.append (fz M f) b = ⟨L.next, 0, { L with next := L.next + needN b.length }, fz M' (lf f (needN b.length))⟩ ∧ 0 ≤ lf f (needN b.length) ∧ LI N (c + 1) { L with next := L.next + needN b.length } M' es (ws ++ [(L.life, b)])) ∨
    (∃ M' L', (L.append (fz M f) b).e = 8 ∧ (L.append (fz M f) b).M = M' ∧ M'.down = true ∧ L' = { L with next := L.next + needN b.length } ∧ CI N (c + 1) L' M' es (ws ++ [(L.life, b)]) (L'.rd (L.append M b).M) L'.next) := by
  obtain ⟨M1, e1, li, hw⟩ := h.append (by omega) hb hl hr
  have hgeo := h.C.geo (by omega)
  have hn35 : needN b.length ≤ 35 := by unfold needN; omega
  have hx1 := h.C.x1
  have hs0 := h.C.s0
  have hsf := h.C.sf
  have hfx := h.C.fx
  have hr2 := hr
  unfold LA.free at hr2
  have eA : ∀ M, L.append M b = ⟨if (L.app M (needN b.length) b).e = 0 then L.next else 0, (L.app M (needN b.length) b).e, (L.app M (needN b.length) b).L, (L.app M (needN b.length) b).M⟩ := fun M => by
    unfold LA.append LA.free
    rw [if_neg (by omega), if_neg (by omega)]
  have e2 := e1
  rw [eA] at e2
  have q1 : (L.app M (needN b.length) b).L = { L with next := L.next + needN b.length } := ((AppR.mk.injEq ..).mp e2).2.2.1
  have q2 : (L.app M (needN b.length) b).M = M1 := ((AppR.mk.injEq ..).mp e2).2.2.2
  by_cases hf : f = 0 ∨ (needN b.length : Int) < f
  · left
    obtain ⟨a1, a2, a3⟩ := app_fz (needN b.length) b L M f h.g hgeo (by omega) (by omega) (Nat.le_refl _) h0 hf
    refine ⟨M1, ?_, by unfold lf; split <;> omega, li⟩
    rw [eA, a1, a2, a3, if_pos rfl, q1, q2]
  · right
    obtain ⟨a1, a2, a3⟩ := app_fz1 (needN b.length) b L M f h.g hgeo (by omega) (by omega) (Nat.le_refl _) (by omega) (by omega)
    have hDf : Dn (fz M f) N := ⟨h.C.D.n, h.C.D.t, h.C.D.s, h.C.D.b, h.C.D.w, h.C.D.y⟩
    obtain ⟨d1, d2, d3⟩ := app_safe hgeo (needN b.length) b L.next (fz M f) hDf
    obtain ⟨d4, d5, d6⟩ := app_safe hgeo (needN b.length) b L.next M h.C.D
    have hYf : DY (L.append (fz M f) b).M := (append_ok' L (fz M f) hb).1.y ⟨h.C.Y.now, h.C.Y.safe, h.C.Y.wait⟩
    have hM1 : (L.append (fz M f) b).M = (L.app (fz M f) (needN b.length) b).M := by rw [eA]
    refine ⟨(L.append (fz M f) b).M, _, by rw [eA]; exact a1, rfl, by rw [hM1]; exact a2, rfl, ?_⟩
    have hMM : (L.append M b).M = M1 := by rw [e1]
    rw [hMM]
    have hsz : (M.wait ++ L.wrs (needN b.length) b).take (M.wait.length + f.toNat) = M.wait ++ (L.wrs (needN b.length) b).take f.toNat := by
      rw [List.take_append, List.take_of_length_le (by omega), show M.wait.length + f.toNat - M.wait.length = f.toNat by omega]
    refine li.C.few (m := M.wait.length + f.toNat) (by rw [hM1]; exact d1) hYf ?_ ?_ ?_ (by omega)
    · rw [hM1]; exact d2.trans (d5.symm.trans (congrArg DA.safe q2))
    · rw [hM1]; exact d3.trans (d6.symm.trans (congrArg DA.bad q2))
    · rw [hM1, a3, hw, hsz]
end
end Go.Proofs.Ytihmfccpgahmaaa.Wal

namespace Go.Proofs.Ytihmfccpgahmaaa.Wal
open Go Go.RowKit
open Go.Proofs.YtihmfccpgahmaaaW.PrintWords hiding Kept Kept.refl
open Go.Proofs.YtihmfccpgahmaaaW.PrintMore Go.Proofs.YtihmfccpgahmaaaW.PrintLast Go.Proofs.Ytihmfccpgahmaaa.Dk Go.Proofs.Ytihmfccpgahmaaa.Q Go.Proofs.Ytihmfccpgahmaaa.Str Go.Proofs.Ytihmfccpgahmaaa.Leb
set_option linter.unusedVariables false
set_option linter.unusedSimpArgs false
theorem fold_fz (f : Int) : ∀ (l : List (Int × List Int)) (M : DA), l.foldl DA.lay (fz M f) = fz (l.foldl DA.lay M) f
  | [], _ => rfl
  | x :: l, M => fold_fz f l (M.lay x)
section
variable {M M' : DA} {N c : Nat} {L : LA} {es ws a b : List (Int × List Int)} {f lsn fl : Int}
theorem fz_dn (h : Dn M N) : Dn (fz M f) N := ⟨h.n, h.t, h.s, h.b, h.w, h.y⟩
theorem fz_dy (h : DY M) : DY (fz M f) := ⟨h.now, h.safe, h.wait⟩
theorem fz_sy (hM : Gd M N) (h0 : 0 ≤ f) (h1 : f ≠ 1) : (fz M f).sy = fz M.sy (lf f 1) ∧ (fz M f).syE = 0 := by
  obtain ⟨s1, s2⟩ := fz_step hM h0 h1
  have hd : (fz M f).down = false := hM.d
  refine ⟨?_, ?_⟩
  · unfold DA.sy
    rw [if_neg (by rw [hd]; decide), if_neg (show ¬ (fz M f).fuse = 1 from h1), if_neg (by rw [hM.d]; decide), if_neg (by rw [hM.f]; decide), s1]
    show ({ (M.step.wait.foldl DA.lay (fz M.step (lf f 1))) with wait := [] } : DA) = _
    rw [fold_fz]
    rfl
  · unfold DA.syE
    rw [if_neg (by rw [hd]; decide)]
    exact s2
theorem fz_sy1 (hM : Gd M N) : (fz M 1).syE = 8 ∧ (fz M 1).sy.down = true ∧ (fz M 1).sy.wait = M.wait ∧ (fz M 1).sy.safe = M.safe ∧ (fz M 1).sy.bad = M.bad := by
  have hd : (fz M 1).down = false := hM.d
  have e : (fz M 1).sy = { M with fuse := 0, down := true } := by
    unfold DA.sy
    rw [if_neg (by rw [hd]; decide), if_pos (show (fz M 1).fuse = 1 from rfl)]
    unfold DA.step
    rw [if_pos (show (fz M 1).fuse = 1 from rfl)]
    rfl
  refine ⟨?_, by rw [e], by rw [e], by rw [e], by rw [e]⟩
  unfold DA.syE
  rw [if_neg (by rw [hd]; decide)]
  rfl
/-- Force, with a fuse. -/
theorem LI.force_fz (h : LI N c L M es ws) (hc : c ≤ 1000000) (h0 : 0 ≤ f) :
    (∃ f', L.force (fz M f) = ⟨0, { L with forced := L.next }, fz (L.force M).M f'⟩ ∧ 0 ≤ f') ∨
    ((L.force (fz M f)).e = 8 ∧ (L.force (fz M f)).L = L ∧ (L.force (fz M f)).M.down = true ∧ CI N c L (L.force (fz M f)).M es ws (L.rd M) L.next) := by
  unfold LA.force
  by_cases hf : L.forced = L.next
  · left
    rw [if_pos hf, if_pos hf]
    exact ⟨f, congrArg (fun x => (⟨0, ({ L with forced := x } : LA), fz M f⟩ : CutR)) hf, h0⟩
  · rw [if_neg hf, if_neg hf, if_pos h.g.sy_eq.2.2.2.2.2]
    by_cases h1 : f = 1
    · right
      subst h1
      obtain ⟨a1, a2, a3, a4, a5⟩ := fz_sy1 h.g
      rw [if_neg (by rw [a1]; decide)]
      exact ⟨a1, rfl, a2, h.C.few (m := M.wait.length) (fz_dn h.C.D).sy (fz_dy h.C.Y).sy a4 a5 (by rw [List.take_length]; exact a3) hc⟩
    · left
      obtain ⟨a1, a2⟩ := fz_sy h.g h0 h1
      rw [if_pos a2, a1]
      exact ⟨lf f 1, rfl, by unfold lf; split <;> omega⟩
/-- A master waits on a disk whose power is off. -/
structure MI (N : Nat) (M M' : DA) (L1 : LA) : Prop where
  D : Dn M' N
  Y : DY M'
  s : M'.safe = M.safe
  b : M'.bad = M.bad
  w : M'.wait = [(L1.mkI, L1.up.mb)]
/-- A mark, with a fuse. -/
theorem mark_fz {L1 : LA} (hM : Gd M N) (hD : Dn M N) (hY : DY M) (hw : M.wait = []) (hN : L1.up.Nm) (i0 : 0 ≤ L1.mkI) (i1 : L1.mkI < N) (h0 : 0 ≤ f) :
    (∃ f', L1.mkE (fz M f) = 0 ∧ L1.mkM (fz M f) = fz (L1.mkM M) f' ∧ 0 ≤ f') ∨ (L1.mkE (fz M f) = 8 ∧ (L1.mkM (fz M f)).down = true ∧ MI N M (L1.mkM (fz M f)) L1) := by
  have hl := mb_len hN
  have hl5 : L1.up.mb.length ≤ 512 := by omega
  have hwe := hM.wrE i0 i1 hl5
  have hgw := hM.wr i0 i1 hl5
  have hpw := wr_parts L1.mkI L1.up.mb (hM.ask i0 i1) hl5
  unfold LA.mkE LA.mkM
  rw [if_pos hwe]
  by_cases h1 : f = 1
  · right
    subst h1
    obtain ⟨w1, w2, w3⟩ := fz_wr1 hM i0 i1 hl5
    rw [if_neg (by rw [w1]; decide), if_neg (by rw [w1]; decide)]
    have hs := wr_safe (fz M 1) L1.mkI L1.up.mb
    exact ⟨w1, w2, (fz_dn hD).wr i0 i1 _, (fz_dy hY).wr _ (mb_byt _), hs.1, hs.2, by rw [w3, hw]; rfl⟩
  · obtain ⟨w1, w2⟩ := fz_wr hM h0 h1 i0 i1 hl5
    rw [if_pos w2, if_pos w2, w1]
    have hf1 : 0 ≤ lf f 1 := by unfold lf; split <;> omega
    by_cases h2 : lf f 1 = 1
    · right
      rw [h2]
      obtain ⟨a1, a2, a3, a4, a5⟩ := fz_sy1 hgw
      exact ⟨a1, a2, (fz_dn (hD.wr i0 i1 _)).sy, (fz_dy (hY.wr _ (mb_byt _))).sy, a4.trans hpw.2.2.1, a5.trans hpw.2.2.2.1, by rw [a3, hpw.2.2.2.2, hw]; rfl⟩
    · left
      obtain ⟨a1, a2⟩ := fz_sy hgw hf1 h2
      exact ⟨lf (lf f 1) 1, a2, a1, by unfold lf at hf1 ⊢; split <;> omega⟩
/-- The power went while a Cut's master was waiting: the Cut was made, or not. -/
theorem crash_mark (h : LI N c L M es []) (hc : c ≤ 999998) (h0 : L.start ≤ lsn) (he : Ents (L.rd M) lsn fl b L.next) (f0 : 0 ≤ fl) (f1 : fl ≤ L.life) (ll : lastL fl b ≤ L.life) (no : NoE (L.rd M) L.next (lastL fl b)) (hm : MI N M M' ((L.at_ lsn).fl fl)) (keep : List Bool) (tear : Int) :
    ∃ L' M'', opn (M'.on keep tear) L.fr (L.ring + 2) = ⟨some L', 0, M''⟩ ∧ L'.life = L.life + 1 ∧ L'.next = L.next ∧ L'.fr = L.fr ∧ L'.ring = L.ring ∧ M''.wait = [] ∧
      ((LI N (c + 2) L' M'' es [] ∧ L'.start = L.start) ∨ (LI N (c + 2) L' M'' b [] ∧ L'.start = lsn)) := by
  have hc6 : c ≤ 1000000 := by omega
  have hq1 := h.C.q1
  have hq0 := h.C.q0
  have hl0 := h.C.l0
  have hl1 := h.C.l1
  have hx1 := h.C.x1
  have hs0 := h.C.s0
  have hf0 := h.C.f0
  have hr0 := h.C.r0
  have hfn := h.C.fn
  have hn6 := h.C.n6
  have hnr := h.C.nr
  have hz := Ents.le _ _ _ he
  have hfw : L.forced = L.next := h.C.eW
  have hgeo := h.C.geo hc6
  obtain ⟨L1, hL1, a1, a2, a3, a4, a5, a6, a7⟩ : ∃ L1 : LA, L1 = (L.at_ lsn).fl fl ∧ L1.fr = L.fr ∧ L1.ring = L.ring ∧ L1.seq = L.seq ∧ L1.life = L.life ∧ L1.start = lsn ∧ L1.floor = fl ∧ L1.next = L.next := ⟨_, rfl, rfl, rfl, rfl, rfl, rfl, rfl, rfl⟩
  rw [← hL1] at hm
  have hI : L1.mkI = L.fr + (L.seq + 1) % 2 := by rw [← a1, ← a3]; rfl
  have hlen : M'.wait.length = 1 := by rw [hm.w]; rfl
  have hwk : wk M' 0 = (L1.mkI, L1.up.mb) := by unfold wk; rw [hm.w]; rfl
  obtain ⟨hg, hD, ho, hy, hn⟩ := on_gd hm.D keep tear (fun i k hik hk => by omega)
  have hsd : ∀ j : Int, 0 ≤ j → j < N → (sdk M').rdE j = M.rdE j ∧ (sdk M').rdB j = M.rdB j := fun j j0 j1 => by
    have q1 := sdk_see h.C.D hm.D hm.s hm.b j0 j1
    have hwf := h.wf
    have q2 := h.other j0 j1 (fun m m0 m1 => by omega)
    exact ⟨q1.1.trans q2.1.symm, q1.2.trans q2.2.symm⟩
  have hoth : ∀ j : Int, 0 ≤ j → j < N → j ≠ L1.mkI → (M'.on keep tear).rdE j = M.rdE j ∧ (M'.on keep tear).rdB j = M.rdB j := fun j j0 j1 hne => by
    have q1 := ho j j0 j1 (fun i hi => by
      have hi0 : i = 0 := by omega
      rw [hi0, hwk]
      exact fun q => hne q.symm)
    have q2 := hsd j j0 j1
    exact ⟨q1.1.trans q2.1, q1.2.trans q2.2⟩
  have hrd : L.rd (M'.on keep tear) = L.rd M := funext fun m => by
    obtain ⟨p0, p1, p2⟩ := hgeo.pl m
    exact rd_cong (hoth _ p0 p1 (by rw [hI]; omega))
  have hmN := h.mN hc6
  have hYo := on_DY keep tear hm.Y
  by_cases hk : keep.getD 0 false = true
  · -- the mark came
    have hr := hy 0 (by omega) hk
    rw [hwk] at hr
    have hb1 : Bd L1 := ⟨by omega, by omega, by omega, by omega, by omega, by omega, by omega, by omega⟩
    have hma : Mas L1.up (M'.on keep tear) := by
      have k : (L1.up.seq + 1) % 2 = L.seq % 2 := by show (L1.seq + 1 + 1) % 2 = _; omega
      have e2 : L1.up.ms (M'.on keep tear) (L.seq % 2) = L.ms M (L.seq % 2) := by
        have q := hoth (L.fr + L.seq % 2) (by omega) (by omega) (by rw [hI]; omega)
        unfold LA.ms
        rw [show L1.up.fr = L.fr from a1, q.1, q.2]
      refine ⟨?_, by rw [k, e2, hmN.a], by rw [k, e2, hmN.a]; intro _; show L.seq < L1.seq + 1; omega, show 0 < L1.seq + 1 by omega⟩
      show L1.ms (M'.on keep tear) ((L1.seq + 1) % 2) = _
      have hI2 : L1.fr + (L1.seq + 1) % 2 = L1.mkI := rfl
      unfold LA.ms
      rw [hI2, hr.1, if_pos rfl, hr.2, mst_mb _ hb1]
      show (⟨L1.seq + 1, L1.life, L1.start, L1.floor, (L1.seq + 1) % 2 == (L1.seq + 1) % 2, 0⟩ : Mst) = ⟨L1.seq + 1, L1.life, L1.start, L1.floor, true, 0⟩
      rw [beq_self_eq_true]
    have hrd1 : L1.up.rd (M'.on keep tear) = L.rd M := (funext fun m => by
      have e : L1.up.pl m = L.pl m := by unfold LA.pl; show L1.fr + 2 + m % L1.ring = _; rw [a1, a2]
      unfold LA.rd
      rw [e] : L1.up.rd (M'.on keep tear) = L.rd (M'.on keep tear)).trans hrd
    obtain ⟨L', M'', e, li, k1, k2, k3, k4, k5, k6⟩ := open_LI (L := L1.up) (c := c + 1) (z := L.next) (es := b) hg hD hYo hn6 hma (by show 0 ≤ L1.fr; omega) (by show 0 < L1.ring; omega) (by show L1.fr + 2 + L1.ring ≤ _; omega) (by show 0 ≤ L1.seq + 1; omega) (by show L1.seq + 1 ≤ _; omega) (by show 0 ≤ L1.life; omega) (by show L1.life ≤ _; omega) (by show 0 ≤ L1.start; omega) (by show 0 ≤ L1.floor; omega) (by show L1.floor ≤ L1.life; omega) (by omega)
      (by rw [hrd1]; show Ents (L.rd M) L1.start L1.floor b L.next; rw [a5, a6]; exact he) (by show L.next ≤ L1.start + L1.ring; omega) (by omega) (by show lastL L1.floor b ≤ L1.life; rw [a6, a4]; exact ll) (by rw [hrd1]; show NoE _ _ (lastL L1.floor b); rw [a6]; exact no)
      (by rw [hrd1]; intro m m0 mo; show _ ≤ L1.life; rw [a4]; exact Int.le_of_lt (h.lowN hc6 m m0 mo))
    refine ⟨L', M'', ?_, ?_, k3, k4.trans a1, k5.trans a2, k6, .inr ⟨li, k2.trans a5⟩⟩
    · rw [← a1, ← a2]; exact e
    · rw [k1]; show L1.life + 1 = _; rw [a4]
  · -- it didn't
    have hr := hn 0 (by omega) (by cases hq : keep.getD 0 false <;> simp_all)
    rw [hwk] at hr
    have hmm : (L.ms (M'.on keep tear) ((L.seq + 1) % 2)).ok = true → L.ms (M'.on keep tear) ((L.seq + 1) % 2) = L.ms M ((L.seq + 1) % 2) := fun hok => by
      rcases hr with q | q
      · have q2 := hsd L1.mkI (by omega) (by omega)
        refine ms_cong ?_
        rw [← hI]
        exact ⟨q.1.trans q2.1, q.2.trans q2.2⟩
      · unfold LA.ms at hok
        rw [← hI, q, if_neg (by decide), if_pos rfl] at hok
        cases hok
    have hma : Mas L (M'.on keep tear) := by
      refine ⟨?_, ?_, fun hok => ?_, hmN.q⟩
      · rw [ms_cong (hoth (L.fr + L.seq % 2) (by omega) (by omega) (by rw [hI]; omega))]
        exact hmN.a
      · have := rdE_good hg (j := L.fr + (L.seq + 1) % 2) (by omega) (by omega)
        rcases (show (M'.on keep tear).rdE (L.fr + (L.seq + 1) % 2) = 9 ∨ (M'.on keep tear).rdE (L.fr + (L.seq + 1) % 2) = 0 by rw [this]; split; exact .inl rfl; exact .inr rfl) with e | e
        · unfold LA.ms
          rw [if_neg (by rw [e]; decide), if_pos e]
        · unfold LA.ms
          rw [if_pos e]
          rfl
      · have e := hmm hok
        rw [e] at hok ⊢
        exact hmN.o hok
    have hen := h.ents hc6
    have hno := h.noN hc6
    have hla := h.last
    rw [List.append_nil] at hen hno hla
    obtain ⟨L', M'', e, li, k1, k2, k3, k4, k5, k6⟩ := open_LI (L := L) (c := c) (z := L.next) (es := es) hg hD hYo hn6 hma hf0 hr0 hfn hq0 hq1 hl0 hl1 hs0 h.C.o0 h.C.o1 (by omega) (by rw [hrd]; exact hen) hnr hx1 hla (by rw [hrd]; exact hno) (by rw [hrd]; exact fun m m0 mo => Int.le_of_lt (h.lowN hc6 m m0 mo))
    exact ⟨L', M'', e, k1, k3, k4, k5, k6, .inl ⟨li.mono (Nat.le_succ _), k2⟩⟩
end
end Go.Proofs.Ytihmfccpgahmaaa.Wal

namespace Go.Proofs.Ytihmfccpgahmaaa.Wal
open Go Go.RowKit
open Go.Proofs.YtihmfccpgahmaaaW.PrintWords hiding Kept Kept.refl
open Go.Proofs.YtihmfccpgahmaaaW.PrintMore Go.Proofs.YtihmfccpgahmaaaW.PrintLast Go.Proofs.Ytihmfccpgahmaaa.Dk Go.Proofs.Ytihmfccpgahmaaa.Q Go.Proofs.Ytihmfccpgahmaaa.Str Go.Proofs.Ytihmfccpgahmaaa.Leb
set_option linter.unusedVariables false
set_option linter.unusedSimpArgs false
section
variable {M M' D : DA} {N c : Nat} {L : LA} {es ws a b : List (Int × List Int)} {f lsn : Int} {cut : Option (Int × List (Int × List Int))}
/-- Whatever stays, the log opens: all that was safe and the first ones of the rest, or the Cut was made. -/
def Fell (N c : Nat) (L : LA) (D : DA) (es ws : List (Int × List Int)) (cut : Option (Int × List (Int × List Int))) : Prop :=
  ∀ keep tear, DY (D.off.on keep tear) ∧ ∃ L' M' es', opn (D.off.on keep tear) L.fr (L.ring + 2) = ⟨some L', 0, M'⟩ ∧ LI N (c + 2) L' M' es' [] ∧ L'.life = L.life + 1 ∧ L'.fr = L.fr ∧ L'.ring = L.ring ∧
    ((L'.start = L.start ∧ ∃ t1 t2, ws = t1 ++ t2 ∧ es' = es ++ t1) ∨ ∃ lsn b, cut = some (lsn, b) ∧ L'.start = lsn ∧ es' = b)
theorem CI.off {Rs : Int → Part} {nx : Int} (h : CI N c L M es ws Rs nx) : CI N c L M.off es ws Rs nx :=
  { h with D := ⟨h.D.n, h.D.t, h.D.s, h.D.b, h.D.w, h.D.y⟩, Y := ⟨h.Y.now, h.Y.safe, h.Y.wait⟩ }
theorem CI.fell {Rs : Int → Part} {nx : Int} (h : CI N c L M es ws Rs nx) (hc : c ≤ 99999) (cut : Option (Int × List (Int × List Int))) : Fell N c L M es ws cut := by
  intro keep tear
  obtain ⟨t1, t2, z, L', M', hL, e, li, k1, k2, k3, k4, k5, _⟩ := h.off.crash (by omega) keep tear
  exact ⟨on_DY _ _ h.off.Y, L', M', _, e, li.mono (Nat.le_succ _), k1, k4, k5, .inl ⟨k2, t1, t2, hL.w, rfl⟩⟩
theorem fz_CI {Rs : Int → Part} {nx : Int} (h : CI N c L M es ws Rs nx) (f : Int) : CI N c L (fz M f) es ws Rs nx :=
  { h with D := ⟨h.D.n, h.D.t, h.D.s, h.D.b, h.D.w, h.D.y⟩, Y := ⟨h.Y.now, h.Y.safe, h.Y.wait⟩ }
/-- Cut, with a fuse. -/
theorem LI.cut_fz (h : LI N c L M es ws) (hc : c ≤ 99999) (hab : es ++ ws = a ++ b) (ha : Ents (L.rd M) L.start L.floor a lsn) (hb : Ents (L.rd M) lsn (lastL L.floor a) b L.next) (h0 : 0 ≤ f) :
    (∃ L' M' f', L.cut (fz M f) lsn = ⟨0, L', fz M' f'⟩ ∧ 0 ≤ f' ∧ LI N (c + 1) L' M' b [] ∧ L'.start = lsn ∧ L'.next = L.next ∧ L'.life = L.life ∧ L'.fr = L.fr ∧ L'.ring = L.ring) ∨
    ((L.cut (fz M f) lsn).e = 8 ∧ (L.cut (fz M f) lsn).M.down = true ∧ Fell N c L (L.cut (fz M f) lsn).M es ws (some (lsn, b))) := by
  have hc6 : c ≤ 1000000 := by omega
  have hl0 := Ents.le _ _ _ ha
  have hl1 := Ents.le _ _ _ hb
  have hq0 := h.C.q0
  have hq1 := h.C.q1
  have hx1 := h.C.x1
  have hs0 := h.C.s0
  have hlf0 := h.C.l0
  have hlf1 := h.C.l1
  have hf0 := h.C.f0
  have hfn := h.C.fn
  have hr0 := h.C.r0
  have hn6 := h.C.n6
  have ho0 := h.C.o0
  have ho1 := h.C.o1
  rcases h.force_fz hc6 h0 with ⟨f1, e1, hf1⟩ | ⟨e1, e2, e3, e4⟩
  · obtain ⟨g1, g2, g3, g4⟩ := h.force hc6
    obtain ⟨_, _, _, r4⟩ := force_good (L := L) h.g
    have hrd : L.rd (L.force M).M = L.rd M := funext fun m => by
      obtain ⟨p0, p1, _⟩ := (h.C.geo hc6).pl m
      exact rd_cong (r4 _ p0 p1)
    have hlast := h.last
    have hno := h.noN hc6
    rw [hab, lastL_append] at hlast hno
    unfold LA.cut
    rw [if_neg (by omega), e1, if_neg (fun q => q rfl)]
    generalize (L.force M).M = M1 at g3 g4 hrd ⊢
    rw [← hrd] at hno
    obtain ⟨L0, hL0, x1, x2, x3, x4, x5, x6, x7⟩ : ∃ L0 : LA, L0 = { L with forced := L.next } ∧ L0.fr = L.fr ∧ L0.ring = L.ring ∧ L0.seq = L.seq ∧ L0.life = L.life ∧ L0.start = L.start ∧ L0.floor = L.floor ∧ L0.next = L.next := ⟨_, rfl, rfl, rfl, rfl, rfl, rfl, rfl, rfl⟩
    have hrd0 : L0.rd M1 = L.rd M := by rw [← hrd, hL0]; rfl
    have hrdf : L0.rd (fz M1 f1) = L.rd M := hrd0
    dsimp only
    rw [← hL0]
    have hfinish : ∀ fl : Int, 0 ≤ fl → fl ≤ L0.life → Ents (L0.rd M1) lsn fl b L0.next → lastL fl b ≤ L0.life → NoE (L0.rd M1) L0.next (lastL fl b) → LI N c L0 M1 (es ++ ws) [] →
        ((∃ L' M' f', ((L0.at_ lsn).fl fl).marked (fz M1 f1) = ⟨0, L', fz M' f'⟩ ∧ 0 ≤ f' ∧ LI N (c + 1) L' M' b [] ∧ L'.start = lsn ∧ L'.next = L.next ∧ L'.life = L.life ∧ L'.fr = L.fr ∧ L'.ring = L.ring) ∨
          ((((L0.at_ lsn).fl fl).marked (fz M1 f1)).e = 8 ∧ (((L0.at_ lsn).fl fl).marked (fz M1 f1)).M.down = true ∧ Fell N c L (((L0.at_ lsn).fl fl).marked (fz M1 f1)).M es ws (some (lsn, b)))) := by
      intro fl u1 u2 u3 u4 u5 li
      obtain ⟨m1, m2, m3⟩ := mark_LI (lsn := lsn) li (by omega) (by omega) u3 u1 u2 u4 u5
      obtain ⟨L1, hL1, a1, a2, a3, a4, a5, a6, a7⟩ : ∃ L1 : LA, L1 = (L0.at_ lsn).fl fl ∧ L1.fr = L.fr ∧ L1.ring = L.ring ∧ L1.seq = L.seq ∧ L1.life = L.life ∧ L1.start = lsn ∧ L1.floor = fl ∧ L1.next = L.next := ⟨_, rfl, x1, x2, x3, x4, rfl, rfl, x7⟩
      have hNm : L1.up.Nm := ⟨⟨by show 0 ≤ L1.fr; omega, by show L1.fr ≤ 65536; omega⟩, ⟨by show 0 ≤ L1.seq + 1; omega, by show L1.seq + 1 < _; omega⟩, ⟨by show 0 ≤ L1.life; omega, by show L1.life < _; omega⟩, ⟨by show 0 ≤ L1.start; omega, by show L1.start < _; omega⟩, ⟨by show 0 ≤ L1.floor; omega, by show L1.floor < _; omega⟩⟩
      have hI : L1.mkI = L1.fr + (L1.seq + 1) % 2 := rfl
      rcases mark_fz (L1 := L1) (f := f1) li.g li.C.D li.C.Y g4 hNm (by rw [hI]; omega) (by rw [hI]; omega) hf1 with ⟨f2, w1, w2, w3⟩ | ⟨w1, w2, w3⟩
      · left
        rw [← hL1] at m1 m2 ⊢
        refine ⟨L1.up, L1.mkM M1, f2, ?_, w3, m2, a5, a7, a4, a1, a2⟩
        show (⟨L1.mkE _, L1.up, L1.mkM _⟩ : CutR) = _
        rw [w1, w2]
      · right
        rw [← hL1]
        refine ⟨w1, w2, fun keep tear => ?_⟩
        have hmi : MI N M1 (L1.mkM (fz M1 f1)).off ((L0.at_ lsn).fl fl) := by
          rw [← hL1]
          exact ⟨⟨w3.D.n, w3.D.t, w3.D.s, w3.D.b, w3.D.w, w3.D.y⟩, ⟨w3.Y.now, w3.Y.safe, w3.Y.wait⟩, w3.s, w3.b, w3.w⟩
        obtain ⟨L', M'', e, k1, k2, k3, k4, _, k6⟩ := crash_mark (lsn := lsn) li (by omega) (by omega) u3 u1 u2 u4 u5 hmi keep tear
        rw [x1, x2] at e
        refine ⟨on_DY _ _ hmi.Y, ?_⟩
        rcases k6 with ⟨k6, k7⟩ | ⟨k6, k7⟩
        · exact ⟨L', M'', _, e, k6, k1.trans (by rw [x4]), k3.trans x1, k4.trans x2, .inl ⟨k7.trans x5, ws, [], (List.append_nil _).symm, rfl⟩⟩
        · exact ⟨L', M'', _, e, k6, k1.trans (by rw [x4]), k3.trans x1, k4.trans x2, .inr ⟨lsn, b, rfl, k7, rfl⟩⟩
    have g3' : LI N c L0 M1 (es ++ ws) [] := by rw [hL0]; exact g3
    unfold LA.cut2
    by_cases hs : L0.start = lsn
    · rw [if_pos hs]
      left
      have ha0 : a = [] := by rw [← hs, x5] at ha; exact ents_nil ha
      subst ha0
      rw [hab] at g3'
      have e : L0.at_ lsn = L0 := by
        unfold LA.at_
        exact congrArg (fun x => ({ L0 with start := x } : LA)) hs.symm
      rw [e]
      exact ⟨L0, M1, f1, rfl, hf1, g3'.mono (Nat.le_succ c), hs, x7, x4, x1, x2⟩
    · rw [if_neg hs]
      by_cases hn : lsn < L0.next
      · rw [if_pos hn]
        cases b with
        | nil =>
          have : lsn = L.next := hb
          omega
        | cons x t =>
          obtain ⟨b1, b2, b3, b4⟩ := hb
          have hxp := needN_pos x.2.length
          have hlv := lies_life _ _ _ b3 lsn (Int.le_refl _) (by omega)
          have hll := lastL_le _ _ _ b4
          have hge := lastL_le _ _ _ ha
          have hlx : lastL (lastL L.floor a) (x :: t) = lastL x.1 t := rfl
          rw [hlx] at hlast hno
          have hrd1 : ((L0.at_ lsn).fl L0.life).rd (fz M1 f1) lsn = L.rd M lsn := (show _ = L0.rd (fz M1 f1) lsn from rfl).trans (by rw [hrdf])
          rw [hrd1, hlv.1, hlv.2, rdE_zero h.g (h.C.geo hc6), if_neg (by rintro (q | q); exact q rfl; cases q)]
          exact hfinish x.1 (by omega) (by omega) (by rw [hrd0, x7]; exact ⟨b1, Int.le_refl _, b3, b4⟩) (by rw [x4]; exact hlast) (by rw [hrd0, ← hrd, x7]; exact hno) g3'
      · rw [if_neg hn]
        have e : lsn = L.next := by omega
        have hb0 : b = [] := by rw [e] at hb; exact ents_nil hb
        subst hb0
        exact hfinish L0.life (by omega) (Int.le_refl _) (by show lsn = L0.next; omega) (Int.le_refl _) (by
          rw [hrd0, x4, x7]
          exact NoE.bad (rdE_zero h.g (h.C.geo hc6) _) (fun ho => h.lowN hc6 _ (Int.le_refl _) ho)) g3'
  · right
    unfold LA.cut
    rw [if_neg (by omega), if_pos (by rw [e1]; decide)]
    exact ⟨e1, e3, e4.fell hc _⟩
end
end Go.Proofs.Ytihmfccpgahmaaa.Wal

namespace Go.Proofs.Ytihmfccpgahmaaa.Wal
open Go Go.RowKit
open Go.Proofs.YtihmfccpgahmaaaW.PrintWords hiding Kept Kept.refl
open Go.Proofs.YtihmfccpgahmaaaW.PrintMore Go.Proofs.YtihmfccpgahmaaaW.PrintLast Go.Proofs.Ytihmfccpgahmaaa.Dk Go.Proofs.Ytihmfccpgahmaaa.Q Go.Proofs.Ytihmfccpgahmaaa.Str Go.Proofs.Ytihmfccpgahmaaa.Leb
set_option linter.unusedVariables false
set_option linter.unusedSimpArgs false
def strs (es : List (Int × List Int)) : List ByteArray := es.map fun x => strOfNums x.2
def ats (a : Int) (es : List (Int × List Int)) : List Int := (numb a es).map fun x => x.1
theorem numb_strs : ∀ (es : List (Int × List Int)) (a : Int), (numb a es).map (fun x => strOfNums x.2) = strs es
  | [], _ => rfl
  | x :: t, a => congrArg (strOfNums x.2 :: ·) (numb_strs t _)
theorem strs_app (es ws : List (Int × List Int)) : strs (es ++ ws) = strs es ++ strs ws := List.map_append
theorem szs_app : ∀ (es ws : List (Int × List Int)), szs (es ++ ws) = szs es + szs ws
  | [], ws => by show szs ws = 0 + szs ws; omega
  | x :: t, ws => by
    have := szs_app t ws
    show needN x.2.length + szs (t ++ ws) = needN x.2.length + szs t + szs ws
    omega
theorem ats_app : ∀ (es ws : List (Int × List Int)) (a : Int), ats a (es ++ ws) = ats a es ++ ats (a + szs es) ws
  | [], ws, a => by show ats a ws = ats (a + 0) ws; rw [Int.add_zero]
  | x :: t, ws, a => by
    show a :: ats (a + needN x.2.length) (t ++ ws) = a :: (ats (a + needN x.2.length) t ++ ats (a + (needN x.2.length + szs t)) ws)
    rw [ats_app t ws, Int.add_assoc]
theorem ats_len (es : List (Int × List Int)) (a : Int) : (ats a es).length = es.length := by
  unfold ats
  rw [List.length_map]
  induction es generalizing a with
  | nil => rfl
  | cons x t ih => show (numb _ t).length + 1 = t.length + 1; rw [ih]
theorem strs_len (es : List (Int × List Int)) : (strs es).length = es.length := List.length_map ..
theorem szs_nn : ∀ t : List (Int × List Int), 0 ≤ szs t
  | [] => Int.le_refl _
  | x :: t => by have := szs_nn t; show 0 ≤ needN x.2.length + szs t; omega
/-- The k-th entry's number. -/
theorem ats_get (es : List (Int × List Int)) (a : Int) (k : Nat) (hk : k < es.length) : (ats a es)[k]? = some (a + szs (es.take k)) := by
  induction es generalizing a k with
  | nil => exact absurd hk (Nat.not_lt_zero _)
  | cons x t ih =>
    cases k with
    | zero => show some a = some (a + 0); rw [Int.add_zero]
    | succ k =>
      show (ats (a + needN x.2.length) t)[k]? = some (a + (needN x.2.length + szs (t.take k)))
      rw [ih _ _ (by simpa using hk), Int.add_assoc]
/-- The entries ahead of the k-th, and those from it on. -/
theorem Ents.split {R : Int → Part} {z : Int} : ∀ (es : List (Int × List Int)) (a lf : Int) (k : Nat), Ents R a lf es z → Ents R a lf (es.take k) (a + szs (es.take k)) ∧ Ents R (a + szs (es.take k)) (lastL lf (es.take k)) (es.drop k) z
  | [], a, lf, k, h => by
    rw [List.take_nil, List.drop_nil]
    show (a = a + 0) ∧ (a + 0 = z)
    have e : a = z := h
    omega
  | x :: t, a, lf, 0, h => by
    show (a = a + 0) ∧ Ents R (a + 0) lf (x :: t) z
    rw [Int.add_zero]
    exact ⟨rfl, h⟩
  | x :: t, a, lf, k + 1, h => by
    obtain ⟨h1, h2⟩ := Ents.split t _ _ k h.2.2.2
    show Ents R a lf (x :: t.take k) (a + (needN x.2.length + szs (t.take k))) ∧ Ents R (a + (needN x.2.length + szs (t.take k))) (lastL x.1 (t.take k)) (t.drop k) z
    rw [← Int.add_assoc]
    exact ⟨⟨h.1, h.2.1, h.2.2.1, h1⟩, h2⟩
section
variable {M : DA} {N c : Nat} {L : LA} {es ws : List (Int × List Int)}
theorem LI.next_eq (h : LI N c L M es ws) (hc : c ≤ 1000000) : L.next = L.start + szs (es ++ ws) := Ents.size _ _ _ (h.ents hc)
theorem LI.forced_eq (h : LI N c L M es []) : L.forced = L.next := h.C.eW
/-- A log on a new disk, from any sector on. -/
theorem new_LI2 (N : Nat) (fr n : Int) (hN : N ≤ 65536) (h1 : 2 < n) (hf : 0 ≤ fr) (h2 : n ≤ (N : Int) - fr) : ∃ L' M', opn (DA.new (newN N).toNat) fr n = ⟨some L', 0, M'⟩ ∧ LI N 1 L' M' [] [] ∧ L'.life = 1 ∧ L'.start = 0 ∧ L'.next = 0 ∧ L'.fr = fr ∧ L'.ring = n - 2 ∧ M'.wait = [] := by
  obtain ⟨hg, hz⟩ := new_gd (N : Int) (by omega) (by omega)
  rw [Int.toNat_natCast] at hg
  have eN : (newN (N : Int)).toNat = N := by unfold newN; repeat' split <;> omega
  have hD : Dn (DA.new (newN (N : Int)).toNat) N := by rw [eN]; exact Dn.new N
  have hY : DY (DA.new (newN (N : Int)).toNat) := new_DY _
  have hO := opn_fresh hg (by omega) (fr := fr) (n := n) (by omega) (by omega) (by omega) (fun j a b => hz j (by omega) (by omega))
  generalize DA.new (newN (N : Int)).toNat = M at hg hz hD hY hO ⊢
  have hm : ∀ k : Int, 0 ≤ k → k < 2 → ∀ L : LA, L.fr = fr → L.ms M k = mst zeros k := fun k a b L hL => by
    obtain ⟨q1, q2⟩ := hz (fr + k) (by omega) (by omega)
    unfold LA.ms; rw [hL, if_pos q1, q2]
  obtain ⟨L0, hL0, a1, a2, a3, a4, a5, a6, a7, a8⟩ : ∃ L0 : LA, L0 = ⟨fr, n - 2, 0, 1, 0, 1, 0, 0⟩ ∧ L0.fr = fr ∧ L0.ring = n - 2 ∧ L0.seq = 0 ∧ L0.life = 1 ∧ L0.start = 0 ∧ L0.floor = 1 ∧ L0.next = 0 ∧ L0.forced = 0 :=
    ⟨_, rfl, rfl, rfl, rfl, rfl, rfl, rfl, rfl, rfl⟩
  have eU : (⟨fr, n - 2, 1, 1, 0, 1, 0, 0⟩ : LA) = L0.up := by rw [hL0]; rfl
  clear hL0
  have b0 : Bd L0 := by constructor <;> omega
  have hms : L0.ms M (L0.seq % 2) = mst zeros (L0.seq % 2) := hm _ (by omega) (by omega) _ a1
  obtain ⟨m1, m2, m3, m4, m5⟩ := mark_good hg b0 (⟨by rw [hms]; rfl, fun c => by rw [hms, ms_zeros] at c; cases c⟩ : Old L0 M) (by omega) (by omega) (by omega)
  obtain ⟨n1, n2⟩ := mk_flat (L := L0) hg hD b0 (by omega) (by omega) (by omega)
  have hNm : L0.up.Nm := ⟨⟨show 0 ≤ L0.fr by omega, show L0.fr ≤ 65536 by omega⟩, ⟨show 0 ≤ L0.seq + 1 by omega, show L0.seq + 1 < 18446744073709551616 by omega⟩, ⟨show 0 ≤ L0.life by omega, show L0.life < 18446744073709551616 by omega⟩, ⟨show 0 ≤ L0.start by omega, show L0.start < 18446744073709551616 by omega⟩, ⟨show 0 ≤ L0.floor by omega, show L0.floor < 18446744073709551616 by omega⟩⟩
  have hI : L0.mkI = fr + 1 := by show L0.fr + (L0.seq + 1) % 2 = _; omega
  have e : (M.wr (fr + 1) (⟨fr, n - 2, 1, 1, 0, 1, 0, 0⟩ : LA).mb).sy = L0.mkM M := by
    rw [(hg.mark hNm (by omega) (by omega)).2.1, hI, eU]
  rw [hO, e, eU]
  have hY1 : DY (L0.mkM M) := mkM_DY hY
  have hrd : ∀ m, (L0.up.rd (L0.mkM M) m).ok = false ∧ (L0.up.rd (L0.mkM M) m).e = 0 ∨ m < 0 := fun m => by
    by_cases hm0 : m < 0
    · exact .inr hm0
    · left
      obtain ⟨p0, p1, p2⟩ := (show Geo L0 N from ⟨by omega, by omega, by omega, by omega, by omega⟩).pl m
      obtain ⟨q1, q2⟩ := m5 (L0.pl m) p2 p1
      obtain ⟨q3, q4⟩ := hz (L0.pl m) p0 (by omega)
      show (L0.rd (L0.mkM M) m).ok = false ∧ (L0.rd (L0.mkM M) m).e = 0
      unfold LA.rd
      rw [if_pos (q1.trans q3), q2, q4]
      exact prt_zeros m (by omega)
  refine ⟨L0.up, L0.mkM M, rfl, LI.flat m2 n1 hY1 m4 n2 (by show 0 ≤ L0.fr; omega) (by show 0 < L0.ring; omega) (by show L0.fr + 2 + L0.ring ≤ _; omega) hN (by show 0 ≤ L0.seq + 1; omega) (by show L0.seq + 1 ≤ _; omega) (by show 0 ≤ L0.life; omega) (by show L0.life ≤ _; omega) (by show 0 ≤ L0.start; omega) (by show 0 ≤ L0.floor; omega) (by show L0.floor ≤ L0.life; omega) (by show L0.forced = L0.next; omega) (by show L0.next ≤ L0.start + L0.ring; omega) (by show L0.next ≤ _; omega) (by omega) ?_ ?_ ?_ ?_ m3, a4, a5, a7, a1, a2, m4⟩
  · show L0.start = L0.next
    omega
  · show L0.floor ≤ L0.life
    omega
  · intro m hm2 ho
    have hm3 : L0.next ≤ m := hm2
    rcases hrd m with c | c
    · rw [c.1] at ho; cases ho
    · omega
  · rcases hrd L0.up.next with c | c
    · exact NoE.bad c.2 (fun ho => by rw [c.1] at ho; cases ho)
    · have c2 : L0.next < 0 := c
      omega
end
end Go.Proofs.Ytihmfccpgahmaaa.Wal

namespace Go.Proofs.Ytihmfccpgahmaaa.Wal
open Go Go.RowKit
open Go.Proofs.YtihmfccpgahmaaaW.PrintWords hiding Kept Kept.refl
open Go.Proofs.YtihmfccpgahmaaaW.PrintMore Go.Proofs.YtihmfccpgahmaaaW.PrintLast Go.Proofs.Ytihmfccpgahmaaa.Dk Go.Proofs.Ytihmfccpgahmaaa.Q Go.Proofs.Ytihmfccpgahmaaa.Str Go.Proofs.Ytihmfccpgahmaaa.Leb
set_option linter.unusedVariables false
set_option linter.unusedSimpArgs false
section
variable {es ws a b t1 t2 : List (Int × List Int)}
theorem strs_take (es : List (Int × List Int)) (k : Nat) : strs (es.take k) = (strs es).take k := List.map_take ..
theorem strs_drop (es : List (Int × List Int)) (k : Nat) : strs (es.drop k) = (strs es).drop k := List.map_drop ..
theorem ats_take (es : List (Int × List Int)) (a : Int) (k : Nat) : ats a (es.take k) = (ats a es).take k := by
  induction es generalizing a k with
  | nil => rw [List.take_nil]; show [] = List.take k []; rw [List.take_nil]
  | cons x t ih =>
    cases k with
    | zero => rfl
    | succ k => show a :: ats (a + needN x.2.length) (t.take k) = a :: (ats (a + needN x.2.length) t).take k; rw [ih]
theorem ats_drop (es : List (Int × List Int)) (a : Int) (k : Nat) (hk : k ≤ es.length) : ats (a + szs (es.take k)) (es.drop k) = (ats a es).drop k := by
  induction es generalizing a k with
  | nil => rw [List.drop_nil]; show [] = List.drop k []; rw [List.drop_nil]
  | cons x t ih =>
    cases k with
    | zero => show ats (a + 0) (x :: t) = ats a (x :: t); rw [Int.add_zero]
    | succ k =>
      have := ih (a + needN x.2.length) k (by simpa using hk)
      show ats (a + (needN x.2.length + szs (t.take k))) (t.drop k) = (ats (a + needN x.2.length) t).drop k
      rw [← Int.add_assoc]
      exact this
/-- What is found is the first ones, and all that was safe. -/
theorem found_first {first : Int} (hw : ws = t1 ++ t2) : ∃ n, es.length ≤ n ∧ n ≤ (es ++ ws).length ∧ strs (es ++ t1) = (strs (es ++ ws)).take n ∧ ats first (es ++ t1) = (ats first (es ++ ws)).take n ∧ n = (es ++ t1).length := by
  have e : es ++ t1 = (es ++ ws).take (es ++ t1).length := by rw [hw, ← List.append_assoc, List.take_left]
  refine ⟨(es ++ t1).length, by rw [List.length_append]; omega, by rw [hw, List.length_append, List.length_append, List.length_append]; omega, ?_, ?_, rfl⟩
  · rw [← strs_take, ← e]
  · rw [← ats_take, ← e]
/-- The numbers ahead of a Cut are below it. -/
theorem ats_lt : ∀ (a : List (Int × List Int)) (first : Int) (x : Int), x ∈ ats first a → first ≤ x ∧ x < first + szs a
  | [], _, x, h => by cases h
  | y :: t, first, x, h => by
    have hp := needN_pos y.2.length
    have hn := szs_nn t
    have h2 : x = first ∨ x ∈ ats (first + needN y.2.length) t := List.mem_cons.1 h
    rcases h2 with h2 | h2
    · subst h2
      show x ≤ x ∧ x < x + (needN y.2.length + szs t)
      omega
    · have := ats_lt t _ x h2
      show first ≤ x ∧ x < first + (needN y.2.length + szs t)
      omega
/-- The Cut was made: the law drops what stood ahead of it. -/
theorem found_cut {first lsn : Int} (hab : es ++ ws = a ++ b) (hl : lsn = first + szs a) : strs b = (strs (es ++ ws)).drop a.length ∧ ats lsn b = (ats first (es ++ ws)).drop a.length ∧ (∀ k, k < a.length → ∃ x, (ats first (es ++ ws))[k]? = some x ∧ x < lsn) ∧ (a.length < (es ++ ws).length → (ats first (es ++ ws))[a.length]? = some lsn) := by
  rw [hab]
  have h1 : (a ++ b).drop a.length = b := List.drop_left
  have h2 : (a ++ b).take a.length = a := List.take_left
  refine ⟨by rw [← strs_drop, h1], ?_, fun k hk => ?_, fun hk => ?_⟩
  · have := ats_drop (a ++ b) first a.length (by rw [List.length_append]; omega)
    rw [h1, h2, ← hl] at this
    exact this
  · have hk2 : k < (a ++ b).length := by rw [List.length_append]; omega
    refine ⟨_, ats_get (a ++ b) first k hk2, ?_⟩
    have hm : first + szs ((a ++ b).take k) ∈ ats first a := by
      have hg := ats_get a first k hk
      rw [List.take_append_of_le_length (by omega)]
      exact List.mem_of_getElem? hg
    rw [hl]
    exact (ats_lt a first _ hm).2
  · rw [ats_get (a ++ b) first a.length hk, h2, ← hl]
/-- The end, told by the last entry. -/
theorem last_end (es : List (Int × List Int)) (first : Int) (hne : es ≠ []) : ∃ x y, (ats first es)[es.length - 1]? = some x ∧ (strs es)[es.length - 1]? = some (strOfNums y) ∧ x + needN y.length = first + szs es ∧ (es[es.length - 1]?).map (fun z => z.2) = some y := by
  have hlen : 0 < es.length := List.length_pos_iff.2 hne
  have hk : es.length - 1 < es.length := by omega
  refine ⟨_, es[es.length - 1].2, ats_get es first _ hk, ?_, ?_, ?_⟩
  · unfold strs
    rw [List.getElem?_map, List.getElem?_eq_getElem hk]
    rfl
  · have hd : es = es.take (es.length - 1) ++ [es[es.length - 1]] := by
      have h1 := List.take_append_getElem hk
      rw [show es.length - 1 + 1 = es.length by omega, List.take_length] at h1
      exact h1.symm
    have hs : szs es = szs (es.take (es.length - 1)) + szs [es[es.length - 1]] := by
      rw [← szs_app, ← hd]
    have h1 : szs [es[es.length - 1]] = needN es[es.length - 1].2.length + 0 := rfl
    omega
  · rw [List.getElem?_eq_getElem hk]
    rfl
end
end Go.Proofs.Ytihmfccpgahmaaa.Wal

namespace Go.Proofs.Ytihmfccpgahmaaa.Wal
open Go Go.RowKit
open Go.Proofs.YtihmfccpgahmaaaW.PrintWords hiding Kept Kept.refl
open Go.Proofs.YtihmfccpgahmaaaW.PrintMore Go.Proofs.YtihmfccpgahmaaaW.PrintLast Go.Proofs.Ytihmfccpgahmaaa.Dk Go.Proofs.Ytihmfccpgahmaaa.Q Go.Proofs.Ytihmfccpgahmaaa.Str Go.Proofs.Ytihmfccpgahmaaa.Leb
set_option linter.unusedVariables false
set_option linter.unusedSimpArgs false
/-- The power went: what the disk is, and what will be found. -/
structure KD (w W : World) (g : Nat) (S : Nat → Prop) (N c : Nat) (L : LA) (D : DA) (es ws : List (Int × List Int)) (cut : Option (Int × List (Int × List Int))) : Prop where
  st : St w W g S D
  d : D.down = true
  w : D.wait.length ≤ 800000
  F : Fell N c L D es ws cut
/-- The log on a disk with a fuse. -/
structure KL (w W : World) (p g : Nat) (S : Nat → Prop) (N c : Nat) (L : LA) (M : DA) (f : Int) (es ws : List (Int × List Int)) : Prop where
  G : Lg w W p g S L (fz M f)
  I : LI N c L M es ws
  f0 : 0 ≤ f
section
variable {w wr W : World} {p g : Nat} {S : Nat → Prop} {N c : Nat} {L : LA} {M : DA} {f : Int} {es ws a b : List (Int × List Int)} {lsn : Int}
theorem KL.below (h : KL w wr p g S N c L M f es ws) (hb : Below wr.heap.size wr W) : KL w W p g S N c L M f es ws := ⟨h.G.below hb, h.I, h.f0⟩
theorem KL.ok (h : KL w wr p g S N c L M f es ws) (hc : c ≤ 10000) : L.Ok (fz M f).now.length ∧ DY (fz M f) ∧ (fz M f).wait.length ≤ 40 * c := ⟨h.I.ok (by omega), ⟨h.I.C.Y.now, h.I.C.Y.safe, h.I.C.Y.wait⟩, h.I.wait⟩
theorem k_append (h : KL w wr p g S N c L M f es ws) (hc : c ≤ 10000) (A : Option Addr) (cc : Nat) (l : List Int) (hC : ∀ W', Kept wr W' (fun k => S k ∨ k = p) → Kd.C (Kd.int .u8) W' A l.length l) (hcc : l.length ≤ cc) (hY : Byt l) (hl : l.length ≤ 16384) (hr : (needN l.length : Int) ≤ L.free) :
    Calls Try.prog 36 #[.pointer (some ⟨p, 0, none⟩), .slice A l.length cc] wr fun e w' => ∃ S', (∀ k, S' k → S k ∨ wr.heap.size ≤ k) ∧ Kept wr w' (fun k => S k ∨ k = p) ∧
      ((e = .returned (.tuple #[.int .u64 L.next, .int .i64 0]) ∧ ∃ L' M' f', KL w w' p g S' N (c + 1) L' M' f' es (ws ++ [(L.life, l)]) ∧ L'.next = L.next + needN l.length ∧ L'.life = L.life ∧ L'.start = L.start ∧ L'.fr = L.fr ∧ L'.ring = L.ring) ∨
       (∃ x, e = .returned (.tuple #[.int .u64 x, .int .i64 8]) ∧ ∃ L' D, KD w w' g S' N (c + 1) L' D es (ws ++ [(L.life, l)]) none ∧ L'.life = L.life ∧ L'.start = L.start ∧ L'.fr = L.fr ∧ L'.ring = L.ring)) := by
  obtain ⟨k1, k2, k3⟩ := h.ok hc
  have hx := h.I.C.x1
  have q := append_l h.G k1 A cc l hC hcc hY (by omega) (by omega)
  have hww := (append_ok' L (fz M f) hY).1.w
  rcases h.I.append_fz (by omega) hY hl hr h.f0 with ⟨M', e1, e2, li⟩ | ⟨M', L', e1, e2, e3, e4, ci⟩
  · rw [e1] at q
    refine q.mono ?_
    rintro e w' ⟨rfl, S', hg, hs, hk⟩
    exact ⟨S', hs, hk, .inl ⟨rfl, _, M', _, ⟨hg, li, e2⟩, rfl, rfl, rfl, rfl, rfl⟩⟩
  · refine q.mono ?_
    rintro e w' ⟨rfl, S', hg, hs, hk⟩
    have hD := hg.D
    rw [e2] at hD
    have hwl : M'.wait.length ≤ M.wait.length + 40 := by
      have h2 : (L.append (fz M f) l).M.wait.length ≤ (fz M f).wait.length + 40 := hww
      rw [e2] at h2
      exact h2
    have hwm : M.wait.length ≤ 40 * c := k3
    refine ⟨S', hs, hk, .inr ⟨_, by rw [e1], L', M', ⟨hD, e3, by omega, ci.fell (by omega) _⟩, by rw [e4], by rw [e4], by rw [e4], by rw [e4]⟩⟩
theorem k_force (h : KL w wr p g S N c L M f es ws) (hc : c ≤ 10000) : Calls Try.prog 43 #[.pointer (some ⟨p, 0, none⟩)] wr fun e w' => Kept wr w' (fun k => S k ∨ k = p) ∧
      ((e = .returned (.int .i64 0) ∧ ∃ L' M' f', KL w w' p g S N c L' M' f' (es ++ ws) [] ∧ L'.next = L.next ∧ L'.life = L.life ∧ L'.start = L.start ∧ L'.fr = L.fr ∧ L'.ring = L.ring) ∨
       (e = .returned (.int .i64 8) ∧ ∃ D, KD w w' g S N c L D es ws none)) := by
  obtain ⟨k1, k2, k3⟩ := h.ok hc
  have q := force_l h.G (by omega)
  rcases h.I.force_fz (by omega) h.f0 with ⟨f', e1, e2⟩ | ⟨e1, e2, e3, ci⟩
  · rw [e1] at q
    obtain ⟨_, _, li, _⟩ := h.I.force (by omega)
    refine q.mono ?_
    rintro e w' ⟨rfl, hg, hk⟩
    exact ⟨hk, .inl ⟨rfl, _, _, f', ⟨hg, li, e2⟩, rfl, rfl, rfl, rfl, rfl⟩⟩
  · refine q.mono ?_
    rintro e w' ⟨rfl, hg, hk⟩
    have hwl := force_wait (L := L) (M := fz M f)
    exact ⟨hk, .inr ⟨by rw [e1], _, hg.D, e3, by omega, ci.fell (by omega) _⟩⟩
theorem cut_wait {M : DA} : (L.cut M lsn).M.wait.length ≤ M.wait.length + 1 := by
  have hf := force_wait (L := L) (M := M)
  unfold LA.cut
  split
  · exact Nat.le_succ _
  · split
    · omega
    · have hm : ∀ K : LA, (K.mkM (L.force M).M).wait.length ≤ (L.force M).M.wait.length + 1 := fun K => mkM_wait
      unfold LA.cut2
      split
      · show (L.force M).M.wait.length ≤ _; omega
      · split
        · split
          · show (L.force M).M.wait.length ≤ _; omega
          · exact Nat.le_trans (hm _) (by omega)
        · exact Nat.le_trans (hm _) (by omega)
theorem k_cut (h : KL w wr p g S N c L M f es ws) (hc : c ≤ 10000) (hab : es ++ ws = a ++ b) (ha : Ents (L.rd M) L.start L.floor a lsn) (hb : Ents (L.rd M) lsn (lastL L.floor a) b L.next) :
    Calls Try.prog 45 #[.pointer (some ⟨p, 0, none⟩), .int .u64 lsn] wr fun e w' => ∃ S', (∀ k, S' k → S k ∨ wr.heap.size ≤ k) ∧ Kept wr w' (fun k => S k ∨ k = p) ∧
      ((e = .returned (.int .i64 0) ∧ ∃ L' M' f', KL w w' p g S' N (c + 1) L' M' f' b [] ∧ L'.next = L.next ∧ L'.life = L.life ∧ L'.start = lsn ∧ L'.fr = L.fr ∧ L'.ring = L.ring) ∨
       (e = .returned (.int .i64 8) ∧ ∃ D, KD w w' g S' N c L D es ws (some (lsn, b)))) := by
  obtain ⟨k1, k2, k3⟩ := h.ok hc
  have hw := cut_wait (L := L) (M := fz M f) (lsn := lsn)
  have h0 := Ents.le _ _ _ ha
  have h1 := Ents.le _ _ _ hb
  have hs0 := h.I.C.s0
  have hx := h.I.C.x1
  have q := cut_l h.G k1 k2 lsn (by omega) (by omega) (by omega)
  rcases h.I.cut_fz (by omega) hab ha hb h.f0 with ⟨L', M', f', e1, e2, li, x1, x2, x3, x4, x5⟩ | ⟨e1, e2, e3⟩
  · rw [e1] at q
    refine q.mono ?_
    rintro e w' ⟨rfl, S', hg, hs, hk⟩
    exact ⟨S', hs, hk, .inl ⟨rfl, L', M', f', ⟨hg, li, e2⟩, x2, x3, x1, x4, x5⟩⟩
  · refine q.mono ?_
    rintro e w' ⟨rfl, S', hg, hs, hk⟩
    exact ⟨S', hs, hk, .inr ⟨by rw [e1], _, hg.D, e2, by omega, e3⟩⟩
end
end Go.Proofs.Ytihmfccpgahmaaa.Wal

namespace Go.Proofs.Ytihmfccpgahmaaa.Tl
open Go Go.RowKit
open Go.Proofs.YtihmfccpgahmaaaW.PrintWords hiding Kept Kept.refl
set_option linter.unusedVariables false
set_option linter.unusedSimpArgs false
def blkOf : Value → Option Nat
  | .slice (some a) _ _ => some a.block
  | _ => none
/-- A row, from a place on, in a block of one's own. -/
def TR {α : Type} (enc : α → Value) (e : TypeId) (base : Nat) (W : World) (v : Value) (xs : List α) : Prop :=
  ∃ (A : Option Addr) (cap : Nat), v = .slice A xs.length cap ∧ xs.length ≤ cap ∧ (0 < cap → ∃ g off, A = some ⟨g, off, none⟩ ∧ base ≤ g ∧ ∃ cells : Array Value, W.heap[g]? = some (.cells cells e (0, 0)) ∧ off + cap ≤ cells.size ∧ ∀ j (hj : j < xs.length), cells[off + j]? = some (enc xs[j]))
section
variable {α : Type} {enc : α → Value} {e base : Nat} {W W2 : World} {v : Value} {xs : List α}
theorem TR.nil (W : World) : TR enc e base W (.slice none 0 0) [] := ⟨none, 0, rfl, Nat.le_refl _, fun h => absurd h (Nat.lt_irrefl _)⟩
theorem TR.lit (W : World) (hb : base ≤ W.heap.size) : TR enc e base (W.alloc (.cells #[] e)) (.slice (some ⟨W.heap.size, 0, none⟩) 0 0) [] := ⟨_, 0, rfl, Nat.le_refl _, fun h => absurd h (Nat.lt_irrefl _)⟩
theorem TR.keep (h : TR enc e base W v xs) (hk : ∀ g, blkOf v = some g → base ≤ g → g < W.heap.size → W2.heap[g]? = W.heap[g]?) : TR enc e base W2 v xs := by
  obtain ⟨A, cap, rfl, hl, hc⟩ := h
  refine ⟨A, cap, rfl, hl, fun h0 => ?_⟩
  obtain ⟨g, off, rfl, hb, cells, h1, h2, h3⟩ := hc h0
  exact ⟨g, off, rfl, hb, cells, (hk g rfl hb (blk_lt h1)).trans h1, h2, h3⟩
theorem TR.below (h : TR enc e base W v xs) (hb : Below W.heap.size W W2) : TR enc e base W2 v xs := h.keep fun g _ _ hlt => hb.block g hlt
theorem TR.cell (h : TR enc e base W v xs) (j : Nat) (hj : j < xs.length) : ∃ g off cap, v = .slice (some ⟨g, off, none⟩) xs.length cap ∧ W.cell? ⟨g, off + j, none⟩ = some (enc xs[j]) := by
  obtain ⟨A, cap, rfl, hl, hc⟩ := h
  obtain ⟨g, off, rfl, hb, cells, h1, h2, h3⟩ := hc (by omega)
  exact ⟨g, off, cap, rfl, (blk_cell h1 _).trans (h3 j hj)⟩
theorem TR.drop {A : Option Addr} {n cap : Nat} (h : TR enc e base W (.slice A n cap) xs) (k : Nat) (hk : k ≤ xs.length) : TR enc e base W (.slice (if cap = k then A else A.map (·.add k)) (n - k) (cap - k)) (xs.drop k) := by
  obtain ⟨A2, cap2, he, hl, hc⟩ := h
  injection he with e1 e2 e3
  subst e1 e2 e3
  refine ⟨_, cap - k, by rw [List.length_drop], by rw [List.length_drop]; omega, fun h0 => ?_⟩
  obtain ⟨g, off, rfl, hb, cells, h1, h2, h3⟩ := hc (by omega)
  rw [if_neg (by omega)]
  refine ⟨g, off + k, by simp [Addr.add], hb, cells, h1, by omega, fun j hj => ?_⟩
  rw [List.length_drop] at hj
  rw [List.getElem_drop, Nat.add_assoc]
  exact h3 (k + j) (by omega)
theorem TR.take {A : Option Addr} {n cap : Nat} (h : TR enc e base W (.slice A n cap) xs) (k : Nat) (hk : k ≤ xs.length) : TR enc e base W (.slice A k k) (xs.take k) := by
  obtain ⟨A2, cap2, he, hl, hc⟩ := h
  injection he with e1 e2 e3
  subst e1 e2 e3
  have hlen : (xs.take k).length = k := by rw [List.length_take]; omega
  refine ⟨A, k, by rw [hlen], by rw [hlen]; exact Nat.le_refl _, fun h0 => ?_⟩
  obtain ⟨g, off, rfl, hb, cells, h1, h2, h3⟩ := hc (by omega)
  refine ⟨g, off, rfl, hb, cells, h1, by omega, fun j hj => ?_⟩
  rw [hlen] at hj
  rw [List.getElem_take]
  exact h3 j (by omega)
end
section
variable {P : Program} {ops : Array Oper} {rest : List Oper} {o : Oper} {a : Act} {Q : Exit → Act → World → Prop} {α : Type} {enc : α → Value}
theorem setsz (w : World) (q : Addr) (u : Value) : (w.setCell q u).heap.size = w.heap.size := by simp [World.setCell]
theorem TR.append (h1 : ∀ x, (enc x).oneCell' = true) {w0 W : World} (base : Nat) (hgd : o.guard = none) (s x : Operand) (t e : TypeId) (z : Value) (bytes : Nat)
    (ho : o.op = .call { callee := .builtin .append, args := #[s, x], argTypes := #[t, t] })
    (ht : P.underlying t = some (.slice e)) (hinfo : (P.info? e).map (fun i => (i.zero, i.size, i.bytes)) = some (some z, 1, bytes)) (hz : z.cells.size = 1) (hb0 : 0 < bytes)
    (v : Value) (xs : List α) (p : α) (hs : a.eval s = v) (hx : a.eval x = .slice (some ⟨W.heap.size, 0, none⟩) 1 1)
    (HT : TR enc e base W v xs) (HB : Below base w0 W) (hbase : base ≤ W.heap.size) (hl : (xs.length + 1) * bytes ≤ 140737488355328)
    (h : ∀ v1 w1, TR enc e base w1 v1 (xs ++ [p]) → Below base w0 w1 → W.grownBy w1 (blkOf v) → (blkOf v1 = blkOf v ∨ ∃ b, blkOf v1 = some b ∧ W.heap.size ≤ b) → wpList P ops Q rest (a.put o.dst v1) w1) :
    wpList P ops Q (o :: rest) a (W.alloc (.cells #[enc p] e)) := by
  obtain ⟨i0, hi, hzz⟩ := Option.map_eq_some_iff.1 hinfo
  simp only [Prod.mk.injEq] at hzz
  obtain ⟨hz0, hz1, hz2⟩ := hzz
  have hlen : xs.length + 1 ≤ 140737488355328 := Nat.le_trans (Nat.le_mul_of_pos_right _ hb0) hl
  obtain ⟨A, cap, rfl, hlc, hc⟩ := HT
  have hnew : (W.alloc (.cells #[enc p] e)).heap[W.heap.size]? = some (.cells #[enc p] e (0, 0)) := heap_alloc_new W _
  have hold : ∀ k, k < W.heap.size → (W.alloc (.cells #[enc p] e)).heap[k]? = W.heap[k]? := fun k hk => heap_alloc_old W _ hk
  have hsrc : Src P i0.size t (.slice (some ⟨W.heap.size, 0, none⟩) 1 1) 1 [enc p] (W.alloc (.cells #[enc p] e)) :=
    Src.ofSlice _ ht _ 1 1 [enc p] (by rw [hz1]; rfl) (by
      intro j u hj
      have := World.news_of_block (cs := #[enc p]) (t := e) (fr := (0, 0)) hnew j u (by simpa using hj)
      exact this) (fun u hu => by rw [List.mem_singleton.1 hu]; exact h1 p)
  have go : ∀ v1 w1, (Builtin.append_ #[t, t] o.type #[.slice A xs.length cap, .slice (some ⟨W.heap.size, 0, none⟩) 1 1]).run P (W.alloc (.cells #[enc p] e)) = .ok v1 w1 → wpList P ops Q rest (a.put o.dst v1) w1 → wpList P ops Q (o :: rest) a (W.alloc (.cells #[enc p] e)) := by
    intro v1 w1 hr hw
    refine wpList_plain hgd fun K hK => ?_
    unfold Oper.wp execOp
    simp only [ho, resolve, invoke, builtin, Sem.run_bind, Sem.run_pure, Result.andThen_ok, List.map_toArray, List.map_cons, List.map_nil, hs, hx, hr]
    exact hK _ _ hw
  by_cases hroom : xs.length + 1 ≤ cap
  · obtain ⟨g, off, rfl, hb, cells, c1, c2, c3⟩ := hc (by omega)
    have hgl := blk_lt c1
    have cA : (W.alloc (.cells #[enc p] e)).heap[g]? = some (.cells cells e (0, 0)) := (hold g hgl).trans c1
    have hr := run_append_room_src (P := P) (W.alloc (.cells #[enc p] e)) t t o.type e i0 ht hi g off xs.length cap _ 1 [enc p] hsrc hroom (fun j hj => by
      have hj0 : j = 0 := by simpa using hj
      subst hj0
      rw [hz1, blk_cell cA]
      simp only [Nat.mul_one, Nat.add_zero]
      rw [Array.getElem?_eq_getElem (by omega)]
      rfl) (fun j hj => blk_frozen cA _)
    refine go _ _ hr (h _ _ ?_ ?_ ?_ (.inl rfl))
    · have hset : ((W.alloc (.cells #[enc p] e)).setCells g (off + xs.length * i0.size) [enc p]).heap[g]? = some (.cells (cells.setIfInBounds (off + xs.length) (enc p)) e (0, 0)) := by
        rw [hz1, Nat.mul_one]
        exact blk_set cA _ _
      refine ⟨some ⟨g, off, none⟩, cap, by rw [List.length_append]; rfl, by rw [List.length_append]; exact hroom, fun _ => ⟨g, off, rfl, hb, _, hset, by rw [Array.size_setIfInBounds]; exact c2, fun j hj => ?_⟩⟩
      rw [List.length_append] at hj
      by_cases hjl : j < xs.length
      · rw [Array.getElem?_setIfInBounds_ne (by omega), List.getElem_append_left hjl]
        exact c3 j hjl
      · have hje : j = xs.length := by have : j < xs.length + 1 := hj; omega
        subst hje
        rw [Array.getElem?_setIfInBounds_self_of_lt (by omega), List.getElem_append_right (Nat.le_refl _)]
        simp
    · exact (HB.alloc hbase _).trans ⟨rfl, rfl, rfl, by show _ ≤ ((W.alloc (.cells #[enc p] e)).setCell _ _).heap.size; rw [setsz]; exact Nat.le_refl _, fun k hk => Below.heap_setCell _ _ _ k (show k ≠ g by omega)⟩
    · exact ⟨rfl, rfl, rfl, by
        show W.heap.size ≤ ((W.alloc (.cells #[enc p] e)).setCell _ _).heap.size
        rw [setsz, World.size_alloc]
        exact Nat.le_succ _, fun k hk hne => by
        have hkg : k ≠ g := fun e => hne (by rw [e]; rfl)
        exact (Below.heap_setCell _ _ _ k hkg).trans (hold k hk)⟩
  · have hcx : cap = xs.length := by omega
    have hfc : (Builtin.firstCells i0.size xs.length (.slice A xs.length cap)).run P (W.alloc (.cells #[enc p] e)).drew = .ok (xs.map enc).toArray (W.alloc (.cells #[enc p] e)).drew := by
      by_cases h0 : 0 < cap
      · obtain ⟨g, off, rfl, hb, cells, c1, c2, c3⟩ := hc h0
        have cA : ((W.alloc (.cells #[enc p] e)).drew).heap[g]? = some (.cells cells e (0, 0)) := (hold g (blk_lt c1)).trans c1
        refine run_firstCells_some _ i0.size xs.length _ _ _ (xs.map enc) (by rw [List.length_map, hz1, Nat.mul_one]) (fun j u hj => ?_)
        rw [List.getElem?_map] at hj
        by_cases hjl : j < xs.length
        · rw [List.getElem?_eq_getElem hjl] at hj
          injection hj with hj
          subst hj
          have q := (blk_cell cA (off + j)).trans (c3 j hjl)
          rw [Addr.add_lit]
          exact q
        · rw [List.getElem?_eq_none (by omega)] at hj
          cases hj
      · have hx0 : xs = [] := List.eq_nil_of_length_eq_zero (by omega)
        subst hx0
        cases A with
        | none => exact run_firstCells_none _ _ _ _ _
        | some ad => exact run_firstCells_some _ i0.size 0 ad _ _ [] (by simp) (fun j u hj => by simp at hj)
    have hr := run_append_grow_src (P := P) (W.alloc (.cells #[enc p] e)) t t o.type e i0 z ht hi hz0 A xs.length cap (xs.map enc) hfc _ 1 [enc p] hsrc (by omega) (by omega) (growslice_fits (by omega) (by rw [hz2]; exact hl))
    have hsz1 : (W.alloc (.cells #[enc p] e)).heap.size = W.heap.size + 1 := World.size_alloc _ _
    have hge := grownCap_ge (W.alloc (.cells #[enc p] e)) (xs.length + 1) cap e
    refine go _ _ hr (h _ _ ?_ ?_ ?_ (.inr ⟨_, rfl, by rw [hsz1]; exact Nat.le_succ _⟩))
    · refine ⟨_, _, by rw [List.length_append]; rfl, by rw [List.length_append]; exact hge, fun _ => ⟨_, 0, rfl, by show base ≤ (W.alloc (.cells #[enc p] e)).heap.size; omega, _, heap_alloc_new (W.alloc (.cells #[enc p] e)).drew _, ?_, fun j hj => ?_⟩⟩
      · rw [Array.size_append, size_zeroCells, hz, List.size_toArray, List.length_append, List.length_map]
        show 0 + _ ≤ xs.length + 1 + _
        omega
      · rw [List.length_append] at hj
        have hj2 : j < xs.length + 1 := hj
        rw [Nat.zero_add, Array.getElem?_append_left (by rw [List.size_toArray, List.length_append, List.length_map]; exact hj2), List.getElem?_toArray, ← List.map_singleton (f := enc), ← List.map_append, List.getElem?_map, List.getElem?_eq_getElem (by rw [List.length_append]; exact hj2)]
        rfl
    · exact ((HB.alloc hbase _).drew).alloc (by show base ≤ (W.alloc (.cells #[enc p] e)).heap.size; omega) _
    · exact ⟨rfl, rfl, rfl, by
        have := (below_alloc (Below.refl W.heap.size W) (.cells #[enc p] e)).size
        have h2 := (below_alloc (Below.refl (W.alloc (.cells #[enc p] e)).drew.heap.size (W.alloc (.cells #[enc p] e)).drew) (.cells (((xs.map enc) ++ [enc p]).toArray ++ Builtin.zeroCells z.cells (grownCap (W.alloc (.cells #[enc p] e)) (xs.length + 1) cap e - (xs.length + 1))) e)).size
        exact Nat.le_trans this h2, fun k hk _ => (heap_alloc_old (W.alloc (.cells #[enc p] e)).drew _ (by show k < (W.alloc (.cells #[enc p] e)).heap.size; omega)).trans (hold k hk)⟩
end
end Go.Proofs.Ytihmfccpgahmaaa.Tl

namespace Go.Proofs.Ytihmfccpgahmaaa.Wal
open Go Go.RowKit
open Go.Proofs.YtihmfccpgahmaaaW.PrintWords hiding Kept Kept.refl
open Go.Proofs.YtihmfccpgahmaaaW.PrintMore Go.Proofs.YtihmfccpgahmaaaW.PrintLast Go.Proofs.Ytihmfccpgahmaaa.Dk Go.Proofs.Ytihmfccpgahmaaa.Q Go.Proofs.Ytihmfccpgahmaaa.Str Go.Proofs.Ytihmfccpgahmaaa.Leb Go.Proofs.Ytihmfccpgahmaaa.Tl
set_option linter.unusedVariables false
set_option linter.unusedSimpArgs false
section
variable {w wr W : World} {p g : Nat} {S S' T : Nat → Prop} {N c : Nat} {L : LA} {M : DA} {f : Int} {es ws : List (Int × List Int)} {va vt v1 : Value} {al : List ByteArray} {at_ : List Int}
/-- While the power is on, it may go: then this is found. -/
theorem KL.fell (h : KL w wr p g S N c L M f es ws) (hc : c ≤ 10000) : Fell N c L (fz M f) es ws none := (fz_CI h.I.C f).fell (by omega) _
/-- The law's rows: apart from one another and from the blocks of S. -/
structure KR (w wr : World) (S : Nat → Prop) (va vt : Value) (al : List ByteArray) (at_ : List Int) : Prop where
  ra : TR Value.string 9 w.heap.size wr va al
  rt : TR (Value.int .u64) 55 w.heap.size wr vt at_
  na : ∀ k, blkOf va = some k → ¬ S k ∧ k < wr.heap.size
  nt : ∀ k, blkOf vt = some k → ¬ S k ∧ k < wr.heap.size ∧ blkOf va ≠ some k
theorem KR.step (h : KR w wr S va vt al at_) (hk : Kept wr W T) (hT : ∀ k, T k → S k) (hS : ∀ k, S' k → S k ∨ wr.heap.size ≤ k) : KR w W S' va vt al at_ :=
  ⟨h.ra.keep fun k e _ hlt => hk.block k hlt (fun q => (h.na k e).1 (hT k q)), h.rt.keep fun k e _ hlt => hk.block k hlt (fun q => (h.nt k e).1 (hT k q)),
    fun k e => ⟨fun q => (hS k q).elim (h.na k e).1 (fun q => by have := (h.na k e).2; omega), Nat.lt_of_lt_of_le (h.na k e).2 hk.size⟩,
    fun k e => ⟨fun q => (hS k q).elim (h.nt k e).1 (fun q => by have := (h.nt k e).2.1; omega), Nat.lt_of_lt_of_le (h.nt k e).2.1 hk.size, (h.nt k e).2.2⟩⟩
theorem KR.below (h : KR w wr S va vt al at_) (hb : Below wr.heap.size wr W) : KR w W S va vt al at_ :=
  h.step (Dk.Kept.of_below hb (fun _ => False)) (fun _ q => q.elim) (fun k q => .inl q)
theorem KR.sub (h : KR w wr S va vt al at_) (hS : ∀ k, S' k → S k ∨ wr.heap.size ≤ k) : KR w wr S' va vt al at_ := h.step (Dk.Kept.refl _ _ : Kept wr wr (fun _ => False)) (fun _ q => q.elim) hS
/-- The first row grew: the second one stands, and so does what stands on the blocks of S. -/
theorem KR.growA (h : KR w wr S va vt al at_) {al' : List ByteArray} (hr : TR Value.string 9 w.heap.size W v1 al') (hg : wr.grownBy W (blkOf va)) (hat : blkOf v1 = blkOf va ∨ ∃ b, blkOf v1 = some b ∧ wr.heap.size ≤ b) (hlt : ∀ k, blkOf v1 = some k → k < W.heap.size) (hSl : ∀ k, S k → k < wr.heap.size) : KR w W S v1 vt al' at_ := by
  refine ⟨hr, h.rt.keep fun k e _ hlt => hg.block k hlt (fun q => (h.nt k e).2.2 q.symm), fun k e => ⟨fun q => ?_, hlt k e⟩, fun k e => ⟨(h.nt k e).1, Nat.lt_of_lt_of_le (h.nt k e).2.1 hg.size, fun q => ?_⟩⟩
  · rcases hat with hat | ⟨b, hb, hle⟩
    · exact (h.na k (hat.symm.trans e)).1 q
    · rw [hb] at e
      injection e with e
      have := hSl k q
      omega
  · rcases hat with hat | ⟨b, hb, hle⟩
    · exact (h.nt k e).2.2 (hat.symm.trans q)
    · rw [hb] at q
      injection q with q
      have := (h.nt k e).2.1
      omega
/-- The second row grew. -/
theorem KR.growT (h : KR w wr S va vt al at_) {at' : List Int} (hr : TR (Value.int .u64) 55 w.heap.size W v1 at') (hg : wr.grownBy W (blkOf vt)) (hat : blkOf v1 = blkOf vt ∨ ∃ b, blkOf v1 = some b ∧ wr.heap.size ≤ b) (hlt : ∀ k, blkOf v1 = some k → k < W.heap.size) (hSl : ∀ k, S k → k < wr.heap.size) : KR w W S va v1 al at' := by
  refine ⟨h.ra.keep fun k e _ hlt => hg.block k hlt (fun q => (h.nt k q.symm).2.2 e), hr, fun k e => ⟨(h.na k e).1, Nat.lt_of_lt_of_le (h.na k e).2 hg.size⟩, fun k e => ⟨fun q => ?_, hlt k e, fun q => ?_⟩⟩
  · rcases hat with hat | ⟨b, hb, hle⟩
    · exact (h.nt k (hat.symm.trans e)).1 q
    · rw [hb] at e
      injection e with e
      have := hSl k q
      omega
  · rcases hat with hat | ⟨b, hb, hle⟩
    · exact (h.nt k (hat.symm.trans e)).2.2 q
    · rw [hb] at e
      injection e with e
      have := (h.na k q).2
      omega
/-- What stands on a disk and on the law's own row beside it. -/
theorem kept_grown {row : Option Nat} (hg : wr.grownBy W row) (hn : ∀ k, row = some k → ¬ S k) : Kept wr W (fun k => row = some k) :=
  ⟨hg.size, fun k hlt hne => hg.block k hlt (fun q => hne q.symm), hg.os, hg.tape, hg.output⟩
theorem St.grown {w0 : World} (h : St w0 wr g S M) {row : Option Nat} (hg : wr.grownBy W row) (hn : ∀ k, row = some k → ¬ S k) (hB : Below w0.heap.size w0 W) : St w0 W g S M :=
  ⟨h.I.step hg.size (fun k hs hlt => hg.block k hlt (fun q => hn k q.symm hs)), hB⟩
theorem KL.grown (h : KL w wr p g S N c L M f es ws) {row : Option Nat} (hg : wr.grownBy W row) (hn : ∀ k, row = some k → ¬ (S k ∨ k = p)) (hB : Below w.heap.size w W) : KL w W p g S N c L M f es ws :=
  ⟨⟨St.grown h.G.D hg (fun k q hs => hn k q (.inl hs)) hB, (hg.block p h.G.lt (fun q => hn p q.symm (.inr rfl))).trans h.G.B, h.G.P, h.G.N⟩, h.I, h.f0⟩
theorem KD.grown {D : DA} {cut : Option (Int × List (Int × List Int))} (h : KD w wr g S N c L D es ws cut) {row : Option Nat} (hg : wr.grownBy W row) (hn : ∀ k, row = some k → ¬ S k) (hB : Below w.heap.size w W) : KD w W g S N c L D es ws cut :=
  ⟨St.grown h.st hg hn hB, h.d, h.w, h.F⟩
/-- Behind the switch, the power on: the law's variables. -/
structure KUp (w W : World) (g p ring c : Nat) (va vt : Value) (safe : Nat) (first next life : Int) (S : Nat → Prop) (L : LA) (M : DA) (f : Int) (es ws : List (Int × List Int)) : Prop where
  l : KL w W p g S (ring + 5) c L M f es ws
  r : KR w W (fun k => S k ∨ k = p) va vt (strs (es ++ ws)) (ats L.start (es ++ ws))
  fr : L.fr = 2
  rg : L.ring = ring
  sa : safe = es.length
  fi : first = L.start
  nx : next = L.next
  li : life = L.life
/-- Behind the switch, the power off. -/
structure KDn (w W : World) (g ring c : Nat) (va vt : Value) (safe : Nat) (first life maybe : Int) (cut : Bool) (S : Nat → Prop) (L : LA) (D : DA) (es ws : List (Int × List Int)) (ct : Option (Int × List (Int × List Int))) : Prop where
  d : KD w W g S (ring + 5) c L D es ws ct
  r : KR w W S va vt (strs (es ++ ws)) (ats L.start (es ++ ws))
  fr : L.fr = 2
  rg : L.ring = ring
  sa : safe = es.length
  fi : first = L.start
  li : life = L.life
  ct : (ct = none ∧ cut = false) ∨ ∃ a b, ct = some (maybe, b) ∧ cut = true ∧ es ++ ws = a ++ b ∧ maybe = first + szs a
theorem KUp.below {ring c : Nat} {safe : Nat} {first next life : Int} (h : KUp w wr g p ring c va vt safe first next life S L M f es ws) (hb : Below wr.heap.size wr W) : KUp w W g p ring c va vt safe first next life S L M f es ws :=
  ⟨h.l.below hb, h.r.below hb, h.fr, h.rg, h.sa, h.fi, h.nx, h.li⟩
theorem KDn.below {ring c : Nat} {safe : Nat} {first life maybe : Int} {cut : Bool} {D : DA} {ct : Option (Int × List (Int × List Int))} (h : KDn w wr g ring c va vt safe first life maybe cut S L D es ws ct) (hb : Below wr.heap.size wr W) : KDn w W g ring c va vt safe first life maybe cut S L D es ws ct :=
  ⟨⟨h.d.st.below hb, h.d.d, h.d.w, h.d.F⟩, h.r.below hb, h.fr, h.rg, h.sa, h.fi, h.li, h.ct⟩
/-- Force. -/
theorem KUp.force {ring c : Nat} {safe : Nat} {first next life : Int} (h : KUp w wr g p ring c va vt safe first next life S L M f es ws) (hc : c ≤ 10000) : Calls Try.prog 43 #[.pointer (some ⟨p, 0, none⟩)] wr fun e w' => Kept wr w' (fun k => S k ∨ k = p) ∧
    ((e = .returned (.int .i64 0) ∧ ∃ L' M' f', KUp w w' g p ring c va vt (es ++ ws).length first next life S L' M' f' (es ++ ws) []) ∨ (e = .returned (.int .i64 8) ∧ ∃ D, KDn w w' g ring c va vt safe first life 0 false S L D es ws none)) := by
  refine (k_force h.l hc).mono ?_
  rintro e w' ⟨hk, ⟨rfl, L', M', f', kl, x1, x2, x3, x4, x5⟩ | ⟨rfl, D, kd⟩⟩
  · refine ⟨hk, .inl ⟨rfl, L', M', f', kl, ?_, x4.trans h.fr, x5.trans h.rg, rfl, h.fi.trans x3.symm, h.nx.trans x1.symm, h.li.trans x2.symm⟩⟩
    rw [List.append_nil, x3]
    exact h.r.step hk (fun _ q => q) (fun _ q => .inl q)
  · exact ⟨hk, .inr ⟨rfl, D, kd, h.r.step hk (fun _ q => q) (fun k q => .inl (.inl q)), h.fr, h.rg, h.sa, h.fi, h.li, .inl ⟨rfl, rfl⟩⟩⟩
/-- Cut at the k-th entry, or at the end: the rows are still as they were. -/
theorem KUp.cut {ring c : Nat} {safe : Nat} {first next life : Int} (h : KUp w wr g p ring c va vt safe first next life S L M f es ws) (hc : c ≤ 10000) (k : Nat) (hk : k ≤ (es ++ ws).length) {lsn : Int} (hl : lsn = first + szs ((es ++ ws).take k)) : Calls Try.prog 45 #[.pointer (some ⟨p, 0, none⟩), .int .u64 lsn] wr fun e w' => Kept wr w' (fun k => S k ∨ k = p) ∧ ∃ S', (∀ k, S' k → S k ∨ wr.heap.size ≤ k) ∧
    ((e = .returned (.int .i64 0) ∧ ∃ L' M' f', KL w w' p g S' (ring + 5) (c + 1) L' M' f' ((es ++ ws).drop k) [] ∧ KR w w' (fun k => S' k ∨ k = p) va vt (strs (es ++ ws)) (ats first (es ++ ws)) ∧ L'.next = next ∧ L'.life = life ∧ L'.start = lsn ∧ L'.fr = 2 ∧ L'.ring = ring ∧ ats lsn ((es ++ ws).drop k) = (ats first (es ++ ws)).drop k) ∨
    (e = .returned (.int .i64 8) ∧ ∃ D, KDn w w' g ring c va vt safe first life lsn true S' L D es ws (some (lsn, (es ++ ws).drop k)))) := by
  obtain ⟨s1, s2⟩ := Ents.split (es ++ ws) L.start L.floor k (h.l.I.ents (by omega))
  rw [h.fi] at hl
  rw [← hl] at s1 s2
  refine (k_cut h.l hc (List.take_append_drop k (es ++ ws)).symm s1 s2).mono ?_
  rintro e w' ⟨S', hS, hk2, ⟨rfl, L', M', f', kl, x1, x2, x3, x4, x5⟩ | ⟨rfl, D, kd⟩⟩
  · refine ⟨hk2, S', hS, .inl ⟨rfl, L', M', f', kl, ?_, x1.trans h.nx.symm, x2.trans h.li.symm, x3, x4.trans h.fr, x5.trans h.rg, ?_⟩⟩
    · rw [h.fi]
      exact h.r.step hk2 (fun _ q => q) (fun q hq => hq.elim (fun hq => (hS q hq).imp .inl id) (fun hq => .inl (.inr hq)))
    · rw [h.fi, hl]
      exact ats_drop _ _ k hk
  · refine ⟨hk2, S', hS, .inr ⟨rfl, D, kd, h.r.step hk2 (fun _ q => q) (fun q hq => (hS q hq).imp .inl id), h.fr, h.rg, h.sa, h.fi, h.li, .inr ⟨(es ++ ws).take k, (es ++ ws).drop k, rfl, rfl, (List.take_append_drop k (es ++ ws)).symm, ?_⟩⟩⟩
    rw [h.fi]
    exact hl
/-- Append: the rows are still as they were. -/
theorem KUp.append {ring c : Nat} {safe : Nat} {first next life : Int} (h : KUp w wr g p ring c va vt safe first next life S L M f es ws) (hc : c ≤ 10000) (A : Option Addr) (cc : Nat) (l : List Int) (hC : ∀ W', Kept wr W' (fun k => S k ∨ k = p) → Kd.C (Kd.int .u8) W' A l.length l) (hcc : l.length ≤ cc) (hY : Byt l) (hl : l.length ≤ 16384) (hr : (needN l.length : Int) ≤ L.free) :
    Calls Try.prog 36 #[.pointer (some ⟨p, 0, none⟩), .slice A l.length cc] wr fun e w' => ∃ S', (∀ k, S' k → S k ∨ wr.heap.size ≤ k) ∧ Kept wr w' (fun k => S k ∨ k = p) ∧ KR w w' (fun k => S' k ∨ k = p) va vt (strs (es ++ ws)) (ats first (es ++ ws)) ∧
      ((e = .returned (.tuple #[.int .u64 next, .int .i64 0]) ∧ ∃ L' M' f', KL w w' p g S' (ring + 5) (c + 1) L' M' f' es (ws ++ [(life, l)]) ∧ L'.next = next + needN l.length ∧ L'.life = life ∧ L'.start = first ∧ L'.fr = 2 ∧ L'.ring = ring) ∨
       (∃ x, e = .returned (.tuple #[.int .u64 x, .int .i64 8]) ∧ ∃ L' D, KD w w' g S' (ring + 5) (c + 1) L' D es (ws ++ [(life, l)]) none ∧ L'.life = life ∧ L'.start = first ∧ L'.fr = 2 ∧ L'.ring = ring)) := by
  rw [h.nx, h.li, h.fi]
  refine (k_append h.l hc A cc l hC hcc hY hl hr).mono ?_
  rintro e w' ⟨S', hS, hk2, h2⟩
  refine ⟨S', hS, hk2, h.r.step hk2 (fun _ q => q) (fun q hq => hq.elim (fun hq => (hS q hq).imp .inl id) (fun hq => .inl (.inr hq))), ?_⟩
  rcases h2 with ⟨he, L', M', f', kl, x1, x2, x3, x4, x5⟩ | ⟨x, he, L', D, kd, x2, x3, x4, x5⟩
  · exact .inl ⟨he, L', M', f', kl, x1, x2, x3, x4.trans h.fr, x5.trans h.rg⟩
  · exact .inr ⟨x, he, L', D, kd, x2, x3, x4.trans h.fr, x5.trans h.rg⟩
theorem fz_zero' {M : DA} (h : M.fuse = 0) : fz M 0 = M := by unfold fz; rw [← h]
/-- The power went and came: the log is opened. -/
theorem k_open {D : DA} {ring c : Nat} {ct : Option (Int × List (Int × List Int))} {keep : List Bool} {tear : Int} (hD : St w wr g S (D.off.on keep tear)) (hF : Fell N c L D es ws ct) (hf : L.fr = 2) (hr : L.ring = ring) (hr2 : ring ≤ 100) : Calls Try.prog 35 #[.pointer (some ⟨g, 0, none⟩), .int .i64 2, .int .i64 ((ring : Int) + 2)] wr fun e w' =>
    ∃ p S' L' M' es', e = .returned (.tuple #[.pointer (some ⟨p, 0, none⟩), .int .i64 0]) ∧ KL w w' p g S' N (c + 2) L' M' 0 es' [] ∧ L'.life = L.life + 1 ∧ L'.fr = 2 ∧ L'.ring = ring ∧ ((L'.start = L.start ∧ ∃ t1 t2, ws = t1 ++ t2 ∧ es' = es ++ t1) ∨ ∃ lsn b, ct = some (lsn, b) ∧ L'.start = lsn ∧ es' = b) ∧ wr.heap.size ≤ p ∧ (∀ k, S' k → S k ∨ wr.heap.size ≤ k) ∧ Kept wr w' S := by
  obtain ⟨hY, L', M', es', e, li, x1, x2, x3, x4⟩ := hF keep tear
  rw [hf, hr] at e
  refine (wl_open hD hY (show (D.off.on keep tear).wait.length < 900000 from Nat.zero_lt_succ _) (by omega) (by omega) e li).mono ?_
  rintro e w' ⟨p, S', rfl, hw, hp, hs, hk⟩
  exact ⟨p, S', L', M', es', rfl, ⟨by rw [fz_zero' hw.I.g.f]; exact hw.G, hw.I, Int.le_refl _⟩, x1, x2.trans hf, x3.trans hr, x4, hp, hs, hk⟩
end
end Go.Proofs.Ytihmfccpgahmaaa.Wal

namespace Go.Proofs.Ytihmfccpgahmaaa.Wal
open Go Go.RowKit Go.WideShapes Go.Proofs.YtihmfccpgahmaaaW.PrintWords Go.Proofs.YtihmfccpgahmaaaW.PrintMore Go.Proofs.YtihmfccpgahmaaaW.PrintLast Go.Proofs.Ytihmfccpgahmaaa.Open Go.Proofs.Ytihmfccpgahmaaa.Dk
set_option linter.unusedVariables false
set_option linter.unusedSimpArgs false
structure WpV where
  k : Int
  n : Int
  keep : List Bool
  tear : Int
def kWp : Kd WpV := Kd.iso (Kd.pair (Kd.int .i64) (Kd.pair (Kd.int .i64) (Kd.pair (Kd.slice 4 Kd.bool) (Kd.int .i64)))) (fun o => (o.k, o.n, o.keep, o.tear))
def WpOk (o : WpV) : Prop := (Lit.int .i64 o.k).wf = true ∧ (Lit.int .i64 o.n).wf = true ∧ (Lit.int .i64 o.tear).wf = true
theorem wp_cells {w : World} {o : WpV} {c : List Value} (h : kWp.K w o c) : ∃ kA kc, c = [.int .i64 o.k, .int .i64 o.n, .slice kA o.keep.length kc, .int .i64 o.tear] ∧ o.keep.length ≤ kc ∧ Kd.C Kd.bool w kA o.keep.length o.keep := by
  obtain ⟨c0, _, rfl, h0, c1, _, rfl, h1, c3, c4, rfl, h3, h4⟩ := h
  obtain ⟨kA, kc, rfl, hk1, hk2⟩ := h3
  replace h0 : c0 = [.int .i64 o.k] := h0
  replace h1 : c1 = [.int .i64 o.n] := h1
  replace h4 : c4 = [.int .i64 o.tear] := h4
  subst h0 h1 h4
  exact ⟨kA, kc, rfl, hk1, hk2⟩
theorem up_cell {w W : World} {p : Addr} {v : Value} (hb : Below w.heap.size w W) (h : w.cell? p = some v) : W.cell? p = some v := (hb.cell (World.block_lt_of_cell? _ _ h)).trans h
/-- An operation that stands in a row. -/
theorem wp_at {w : World} {A : Option Addr} {l : List WpV} (h : Kd.C kWp w A l.length l) (k : Nat) (hk : k < l.length) : ∃ ad kA kc, A = some ad ∧ w.cell? (ad.add (k * 4)) = some (.int .i64 l[k].k) ∧ w.cell? ⟨(ad.add (k * 4)).block, (ad.add (k * 4)).off + 1, none⟩ = some (.int .i64 l[k].n) ∧
    w.cell? ⟨(ad.add (k * 4)).block, (ad.add (k * 4)).off + 2, none⟩ = some (.slice kA l[k].keep.length kc) ∧ w.cell? ⟨(ad.add (k * 4)).block, (ad.add (k * 4)).off + 3, none⟩ = some (.int .i64 l[k].tear) ∧ l[k].keep.length ≤ kc ∧ Kd.C Kd.bool w kA l[k].keep.length l[k].keep := by
  obtain ⟨ad, c, hA, _, hK, hc⟩ := Kd.C_get h ⟨0, 0, [], 0⟩ (k : Int) (by omega) (by omega)
  rw [Int.toNat_natCast] at hK hc
  have e : l.getD k ⟨0, 0, [], 0⟩ = l[k] := by simp [List.getD_eq_getElem?_getD, List.getElem?_eq_getElem hk]
  rw [e] at hK
  obtain ⟨kA, kc, rfl, h3, h4⟩ := wp_cells hK
  exact ⟨ad, kA, kc, hA, hc 0 _ rfl, by rw [← add_field _ _ 1 (by decide)]; exact hc 1 _ rfl, by rw [← add_field _ _ 2 (by decide)]; exact hc 2 _ rfl, by rw [← add_field _ _ 3 (by decide)]; exact hc 3 _ rfl, h3, h4⟩
section
variable {H : Type} {enc : TypeId × Value → H} {w : World} {base : Nat} {spare : Nat → Bool} {held : Bool}
theorem list4 : ∀ cs : List Value, cs.length = 4 → ∃ x0 x1 x2 x3, cs = [x0, x1, x2, x3]
  | [x0, x1, x2, x3], _ => ⟨x0, x1, x2, x3, rfl⟩
theorem opn_wp : Opn enc Try.prog w base spare held 79 kWp WpOk := by
  intro fuel cs D p h
  obtain ⟨hl, n, hF⟩ := trod_fields Try.underlying79 h
  have hl4 : cs.length = 4 := hl.trans (by kernel_rfl)
  obtain ⟨x0, x1, x3, x4, rfl⟩ := list4 cs hl4
  have z1 : Try.prog.cellsOf 3 = 1 := by kernel_rfl
  have z3 : Try.prog.cellsOf 30 = 1 := by kernel_rfl
  obtain ⟨y0, q0⟩ := hF 0 _ rfl
  obtain ⟨y1, q1⟩ := hF 1 _ rfl
  obtain ⟨y3, q3⟩ := hF 2 _ rfl
  obtain ⟨y4, q4⟩ := hF 3 _ rfl
  replace q0 : DataW.trod enc Try.prog w base spare held n 3 [x0] = some y0 := by simpa [z1] using q0
  replace q1 : DataW.trod enc Try.prog w base spare held n 3 [x1] = some y1 := by simpa [z1] using q1
  replace q3 : DataW.trod enc Try.prog w base spare held n 30 [x3] = some y3 := by simpa [z3] using q3
  replace q4 : DataW.trod enc Try.prog w base spare held n 3 [x4] = some y4 := by simpa [z1] using q4
  obtain ⟨a0, k0, b0⟩ := opn_int Try.underlying3 _ _ _ _ q0
  obtain ⟨a1, k1, b1⟩ := opn_int Try.underlying3 _ _ _ _ q1
  obtain ⟨a3, k3, b3⟩ := opn_slice Try.underlying30 (by kernel_rfl) (opn_bool Try.underlying4) _ _ _ _ q3
  obtain ⟨a4, k4, b4⟩ := opn_int Try.underlying3 _ _ _ _ q4
  exact ⟨⟨a0, a1, a3, a4⟩, ⟨[x0], [x1, x3, x4], rfl, k0, [x1], [x3, x4], rfl, k1, [x3], [x4], rfl, k3, k4⟩, b0, b1, b4⟩
end
end Go.Proofs.Ytihmfccpgahmaaa.Wal

namespace Go.Proofs.Ytihmfccpgahmaaa.Wal
open Go Go.RowKit
open Go.Proofs.YtihmfccpgahmaaaW.PrintWords hiding Kept Kept.refl
open Go.Proofs.YtihmfccpgahmaaaW.PrintMore Go.Proofs.YtihmfccpgahmaaaW.PrintLast Go.Proofs.Ytihmfccpgahmaaa.Dk Go.Proofs.Ytihmfccpgahmaaa.Q Go.Proofs.Ytihmfccpgahmaaa.Str Go.Proofs.Ytihmfccpgahmaaa.Leb
set_option linter.unusedVariables false
set_option linter.unusedSimpArgs false
theorem bytes_l0 (n : Nat) (h : n ≤ 2047) (x1 : Int) : ∀ (d k : Nat) (x5 : List Int) (x : Int), x5.length = n → 0 ≤ x → x ≤ n → n - x.toNat = d → d < k → ∃ r, dockmasterlaw05_bytes.l0 k x1 x5 (n : Int) x = some (strOfNums r) ∧ r.length = n := by
  intro d
  induction d with
  | zero =>
    intro k x5 x h5 h0 h1 hd hk
    obtain ⟨k, rfl⟩ : ∃ m, k = m + 1 := ⟨k - 1, by omega⟩
    simp only [dockmasterlaw05_bytes.l0]
    rw [if_neg (by omega)]
    exact ⟨x5, rfl, h5⟩
  | succ d ih =>
    intro k x5 x h5 h0 h1 hd hk
    obtain ⟨k, rfl⟩ : ∃ m, k = m + 1 := ⟨k - 1, by omega⟩
    simp only [dockmasterlaw05_bytes.l0]
    rw [if_pos (by omega), if_pos h0, if_pos (by omega)]
    have e : wrap64 (x + 1) = x + 1 := w64 (by omega) (by omega)
    rw [e]
    exact ih k _ (x + 1) (by rw [List.length_set]; exact h5) (by omega) (by omega) (by omega) (by omega)
/-- The law's bytes: a text of that size, the same one each time. -/
theorem bytes_v (n : Nat) (h : n ≤ 2047) (i : Int) : ∃ r : ByteArray, r.size = n ∧ ∀ w : World, Calls Try.prog 41 #[.int .i64 (n : Int), .int .i64 i] w fun e w' => e = .returned (.string r) ∧ Below w.heap.size w w' := by
  obtain ⟨r, hr, hl⟩ := bytes_l0 n h i n (n + 1) (List.replicate n 0) 0 (List.length_replicate) (by omega) (by omega) (by omega) (by omega)
  refine ⟨strOfNums r, by rw [size_str]; exact hl, fun w => (dockmasterlaw05_bytes.calls (n + 1) n i (strOfNums r) w ?_).mono ?_⟩
  · unfold dockmasterlaw05_bytes.f
    rw [if_pos (by omega), if_pos (by omega), Int.toNat_natCast]
    show dockmasterlaw05_bytes.l0 _ i (List.replicate n 0) ((List.replicate n (0 : Int)).length : Int) 0 = _
    rw [List.length_replicate]
    exact hr
  · rintro e w' ⟨he, hb⟩
    exact ⟨he, hb⟩
/-- A conversion's row is read, as long as its block stays. -/
theorem conv_C {w W' : World} {e : TypeId} {s : ByteArray} (hs : s.size ≤ 9223372036854775807) (hb : W'.heap[w.heap.size]? = (Lib.bytesWorld w e s).heap[w.heap.size]?) : Kd.C (Kd.int .u8) W' (some ⟨w.heap.size, 0, none⟩) (bytesOf s).length (bytesOf s) := by
  have r := bytes_reads w e s hs
  rw [bytesOf_length]
  refine Kd.C_of_reads (enc := Value.int .u8) (d := (0 : Int)) (h1 := fun _ => rfl) ⟨r.1, r.2.1, fun hp => ?_⟩
  obtain ⟨ad, ha, hc⟩ := r.2.2 hp
  refine ⟨ad, ha, fun j hj => ?_⟩
  have := hc j hj
  injection ha with ha
  subst ha
  rw [add_plain] at this ⊢
  rw [← this]
  simp only [World.cell?, hb]
end Go.Proofs.Ytihmfccpgahmaaa.Wal

namespace Go.Proofs.Ytihmfccpgahmaaa.Wal
open Go Go.RowKit
open Go.Proofs.YtihmfccpgahmaaaW.PrintWords hiding Kept Kept.refl
open Go.Proofs.YtihmfccpgahmaaaW.PrintMore Go.Proofs.YtihmfccpgahmaaaW.PrintLast Go.Proofs.Ytihmfccpgahmaaa.Dk Go.Proofs.Ytihmfccpgahmaaa.Q Go.Proofs.Ytihmfccpgahmaaa.Str Go.Proofs.Ytihmfccpgahmaaa.Leb Go.Proofs.Ytihmfccpgahmaaa.Tl
set_option linter.unusedVariables false
set_option linter.unusedSimpArgs false
section
variable {w wr W : World} {p g ring c k : Nat} {S S' T : Nat → Prop} {L L' : LA} {M M' D : DA} {f : Int} {es ws : List (Int × List Int)} {va vt v1 : Value} {safe : Nat} {first next life maybe : Int} {cut : Bool} {ct : Option (Int × List (Int × List Int))}
theorem KUp.mono {c' : Nat} (h : KUp w wr g p ring c va vt safe first next life S L M f es ws) (hc : c ≤ c') : KUp w wr g p ring c' va vt safe first next life S L M f es ws := { h with l := { h.l with I := h.l.I.mono hc } }
/-- The power is off, or goes. -/
structure KPw (w W : World) (g ring c : Nat) (va vt : Value) (safe : Nat) (first life maybe : Int) (cut : Bool) (S : Nat → Prop) (L : LA) (D : DA) (es ws : List (Int × List Int)) (ct : Option (Int × List (Int × List Int))) : Prop where
  st : St w W g S D
  wl : D.wait.length ≤ 800000
  F : Fell (ring + 5) c L D es ws ct
  r : KR w W S va vt (strs (es ++ ws)) (ats L.start (es ++ ws))
  fr : L.fr = 2
  rg : L.ring = ring
  sa : safe = es.length
  fi : first = L.start
  li : life = L.life
  ct : (ct = none ∧ cut = false) ∨ ∃ a b, ct = some (maybe, b) ∧ cut = true ∧ es ++ ws = a ++ b ∧ maybe = first + szs a
theorem KDn.pw (h : KDn w wr g ring c va vt safe first life maybe cut S L D es ws ct) : KPw w wr g ring c va vt safe first life maybe cut S L D es ws ct :=
  ⟨h.d.st, h.d.w, h.d.F, h.r, h.fr, h.rg, h.sa, h.fi, h.li, h.ct⟩
theorem KDn.mb (h : KDn w wr g ring c va vt safe first life maybe false S L D es ws ct) (m : Int) : KDn w wr g ring c va vt safe first life m false S L D es ws ct :=
  ⟨h.d, h.r, h.fr, h.rg, h.sa, h.fi, h.li, h.ct.imp id fun ⟨a, b, _, hf, _⟩ => by cases hf⟩
theorem KUp.pw (h : KUp w wr g p ring c va vt safe first next life S L M f es ws) (hc : c ≤ 10000) (m : Int) : KPw w wr g ring c va vt safe first life m false S L (fz M f) es ws none :=
  ⟨h.l.G.D, by have := (h.l.ok hc).2.2; omega, h.l.fell hc, h.r.sub (fun k q => .inl (.inl q)), h.fr, h.rg, h.sa, h.fi, h.li, .inl ⟨rfl, rfl⟩⟩
/-- Numbers of the log, in bounds. -/
theorem KUp.nums (h : KUp w wr g p ring c va vt safe first next life S L M f es ws) (hc : c ≤ 10000) : 0 ≤ first ∧ next = first + szs (es ++ ws) ∧ next ≤ first + ring ∧ next < 1000000000 ∧ 0 ≤ life ∧ life < 1000000000 ∧ L.free = (ring : Int) - (next - first) := by
  have h1 := h.l.I.next_eq (by omega)
  have h2 := h.l.I.C.nr
  have h3 := h.l.I.C.s0
  have h4 := h.l.I.C.x1
  have h5 := h.l.I.C.f0
  have h6 := h.l.I.C.fn
  have h7 := h.l.I.C.l0
  have h8 := h.l.I.C.l1
  have h9 := h.fi
  have h10 := h.nx
  have h11 := h.rg
  have h12 := h.li
  refine ⟨by omega, by omega, by omega, by omega, by omega, by omega, ?_⟩
  unfold LA.free
  omega
theorem TR.lt {α : Type} {enc : α → Value} {e base : Nat} {v : Value} {xs : List α} (h : TR enc e base W v xs) (hx : 0 < xs.length) (j : Nat) (hj : blkOf v = some j) : j < W.heap.size := by
  obtain ⟨A, cap, rfl, hl, hc⟩ := h
  obtain ⟨g, off, rfl, hb, cells, h1, _⟩ := hc (by omega)
  have h2 : g = j := by simpa [blkOf] using hj
  rw [← h2]
  exact blk_lt h1
theorem len_szs : ∀ es : List (Int × List Int), (es.length : Int) ≤ szs es
  | [] => Int.le_refl _
  | x :: t => by
    have h1 := len_szs t
    have h2 := needN_pos x.2.length
    show ((t.length + 1 : Nat) : Int) ≤ needN x.2.length + szs t
    omega
theorem KR.form (h : KR w wr S va vt (strs es) (ats first es)) : ∃ A1 c1 A2 c2 n, va = .slice A1 n c1 ∧ vt = .slice A2 n c2 ∧ n = es.length ∧ n ≤ c1 ∧ n ≤ c2 := by
  obtain ⟨A1, c1, e1, h1, _⟩ := h.ra
  obtain ⟨A2, c2, e2, h2, _⟩ := h.rt
  rw [strs_len] at e1 h1
  rw [ats_len] at e2 h2
  exact ⟨A1, c1, A2, c2, _, e1, e2, rfl, h1, h2⟩
theorem KUp.len (h : KUp w wr g p ring c va vt safe first next life S L M f es ws) (hc : c ≤ 10000) : (es ++ ws).length ≤ ring := by
  have h1 := h.nums hc
  have h2 := len_szs (es ++ ws)
  omega
theorem KUp.kset (h : KUp w wr g p ring c va vt safe first next life S L M f es ws) (n : Int) (h0 : 0 ≤ n) (hst : St w W g S ((fz M f).setFuse n)) (hk : Kept wr W S) : KUp w W g p ring c va vt safe first next life S L M n es ws := by
  have hs : (fz M f).setFuse n = fz M n := by
    have hd : (fz M f).down = false := h.l.I.g.d
    unfold DA.setFuse
    rw [hd, if_neg (by decide)]
    have e : (if n ≤ 0 then (0 : Int) else n) = n := by split <;> omega
    rw [e]
    unfold fz
    rw [← h.l.I.g.d]
  rw [hs] at hst
  exact { h with
    l := ⟨⟨hst, (hk.block p h.l.G.lt h.l.G.N).trans h.l.G.B, h.l.G.P, h.l.G.N⟩, h.l.I, h0⟩
    r := h.r.step hk (fun _ q => .inl q) (fun k q => .inl q) }
theorem blk_drop {A1 : Option Addr} {j n n' c c' k : Nat} (hk : blkOf (.slice (if c = j then A1 else A1.map (·.add j)) n' c') = some k) : blkOf (.slice A1 n c) = some k := by
  cases A1 with
  | none => simp [blkOf] at hk
  | some a =>
    split at hk
    · exact hk
    · have h2 : (a.add j).block = k := by simpa [blkOf] using hk
      have h3 : (a.add j).block = a.block := by unfold Addr.add; split <;> rfl
      exact congrArg some (h3.symm.trans h2)
/-- Cut was made: the rows are cut, too. -/
theorem cut_up {j : Nat} {S' : Nat → Prop} {A1 A2 : Option Addr} {n c1 c2 : Nat} {lsn : Int} (kl : KL w wr p g S' (ring + 5) c L M f ((es ++ ws).drop j) []) (kr : KR w wr (fun k => S' k ∨ k = p) (.slice A1 n c1) (.slice A2 n c2) (strs (es ++ ws)) (ats first (es ++ ws))) (hn : n = (es ++ ws).length) (hj : j ≤ n) (x1 : L.next = next) (x2 : L.life = life) (x3 : L.start = lsn) (x4 : L.fr = 2) (x5 : L.ring = ring) (x6 : ats lsn ((es ++ ws).drop j) = (ats first (es ++ ws)).drop j) :
    KUp w wr g p ring c (.slice (if c1 = j then A1 else A1.map (·.add j)) (n - j) (c1 - j)) (.slice (if c2 = j then A2 else A2.map (·.add j)) (n - j) (c2 - j)) (n - j) lsn next life S' L M f ((es ++ ws).drop j) [] := by
  have e1 := kr.ra.drop j (by rw [strs_len]; omega)
  have e2 := kr.rt.drop j (by rw [ats_len]; omega)
  have b1 := fun k (hk : blkOf (.slice (if c1 = j then A1 else A1.map (·.add j)) (n - j) (c1 - j)) = some k) => blk_drop (n := n) hk
  have b2 := fun k (hk : blkOf (.slice (if c2 = j then A2 else A2.map (·.add j)) (n - j) (c2 - j)) = some k) => blk_drop (n := n) hk
  refine { l := kl, r := ⟨?_, ?_, fun k hk => kr.na k (b1 k hk), fun k hk => ⟨(kr.nt k (b2 k hk)).1, (kr.nt k (b2 k hk)).2.1, fun q => (kr.nt k (b2 k hk)).2.2 (b1 k q)⟩⟩, fr := x4, rg := x5, sa := ?_, fi := x3.symm, nx := x1.symm, li := x2.symm }
  · rw [List.append_nil, strs_drop]; exact e1
  · rw [List.append_nil, x3, x6]; exact e2
  · rw [List.length_drop, hn]
end
namespace WalKeeps
def cl : Code → Code
  | .seq a _ => a
  | .cond _ a _ => a
  | .block _ b => b
  | .loop b => b
  | c => c
def cr : Code → Code
  | .seq _ b => b
  | .cond _ _ b => b
  | c => c
def crn : Nat → Code → Code
  | 0, c => c
  | n + 1, c => crn n (cr c)
def roundC (F : Func) : Code := cl (cl (cr (cl (crn 14 (F.body.getD .skip)))))
def blk1C (F : Func) : Code := cl (cl (cr (roundC F)))
def swC (F : Func) : Code := cr (cl (crn 2 (blk1C F)))
def cutT (F : Func) : Code := crn 4 (cl (crn 5 (cl (swC F))))
def restC (F : Func) : Code := crn 3 (blk1C F)
def chkC (F : Func) : Code := cl (cr (cl (restC F)))
def tailC (F : Func) : Code := crn 6 (cr (restC F))
def powC (F : Func) : Code := cr (restC F)
set_option maxRecDepth 100000 in
theorem arr405 (A : Array Value) (h : A.size = 405) : A = #[A.getD 0 undef, A.getD 1 undef, A.getD 2 undef, A.getD 3 undef, A.getD 4 undef, A.getD 5 undef, A.getD 6 undef, A.getD 7 undef, A.getD 8 undef, A.getD 9 undef, A.getD 10 undef, A.getD 11 undef, A.getD 12 undef, A.getD 13 undef, A.getD 14 undef, A.getD 15 undef, A.getD 16 undef, A.getD 17 undef, A.getD 18 undef, A.getD 19 undef, A.getD 20 undef, A.getD 21 undef, A.getD 22 undef, A.getD 23 undef, A.getD 24 undef, A.getD 25 undef, A.getD 26 undef, A.getD 27 undef, A.getD 28 undef, A.getD 29 undef, A.getD 30 undef, A.getD 31 undef, A.getD 32 undef, A.getD 33 undef, A.getD 34 undef, A.getD 35 undef, A.getD 36 undef, A.getD 37 undef, A.getD 38 undef, A.getD 39 undef, A.getD 40 undef, A.getD 41 undef, A.getD 42 undef, A.getD 43 undef, A.getD 44 undef, A.getD 45 undef, A.getD 46 undef, A.getD 47 undef, A.getD 48 undef, A.getD 49 undef, A.getD 50 undef, A.getD 51 undef, A.getD 52 undef, A.getD 53 undef, A.getD 54 undef, A.getD 55 undef, A.getD 56 undef, A.getD 57 undef, A.getD 58 undef, A.getD 59 undef, A.getD 60 undef, A.getD 61 undef, A.getD 62 undef, A.getD 63 undef, A.getD 64 undef, A.getD 65 undef, A.getD 66 undef, A.getD 67 undef, A.getD 68 undef, A.getD 69 undef, A.getD 70 undef, A.getD 71 undef, A.getD 72 undef, A.getD 73 undef, A.getD 74 undef, A.getD 75 undef, A.getD 76 undef, A.getD 77 undef, A.getD 78 undef, A.getD 79 undef, A.getD 80 undef, A.getD 81 undef, A.getD 82 undef, A.getD 83 undef, A.getD 84 undef, A.getD 85 undef, A.getD 86 undef, A.getD 87 undef, A.getD 88 undef, A.getD 89 undef, A.getD 90 undef, A.getD 91 undef, A.getD 92 undef, A.getD 93 undef, A.getD 94 undef, A.getD 95 undef, A.getD 96 undef, A.getD 97 undef, A.getD 98 undef, A.getD 99 undef, A.getD 100 undef, A.getD 101 undef, A.getD 102 undef, A.getD 103 undef, A.getD 104 undef, A.getD 105 undef, A.getD 106 undef, A.getD 107 undef, A.getD 108 undef, A.getD 109 undef, A.getD 110 undef, A.getD 111 undef, A.getD 112 undef, A.getD 113 undef, A.getD 114 undef, A.getD 115 undef, A.getD 116 undef, A.getD 117 undef, A.getD 118 undef, A.getD 119 undef, A.getD 120 undef, A.getD 121 undef, A.getD 122 undef, A.getD 123 undef, A.getD 124 undef, A.getD 125 undef, A.getD 126 undef, A.getD 127 undef, A.getD 128 undef, A.getD 129 undef, A.getD 130 undef, A.getD 131 undef, A.getD 132 undef, A.getD 133 undef, A.getD 134 undef, A.getD 135 undef, A.getD 136 undef, A.getD 137 undef, A.getD 138 undef, A.getD 139 undef, A.getD 140 undef, A.getD 141 undef, A.getD 142 undef, A.getD 143 undef, A.getD 144 undef, A.getD 145 undef, A.getD 146 undef, A.getD 147 undef, A.getD 148 undef, A.getD 149 undef, A.getD 150 undef, A.getD 151 undef, A.getD 152 undef, A.getD 153 undef, A.getD 154 undef, A.getD 155 undef, A.getD 156 undef, A.getD 157 undef, A.getD 158 undef, A.getD 159 undef, A.getD 160 undef, A.getD 161 undef, A.getD 162 undef, A.getD 163 undef, A.getD 164 undef, A.getD 165 undef, A.getD 166 undef, A.getD 167 undef, A.getD 168 undef, A.getD 169 undef, A.getD 170 undef, A.getD 171 undef, A.getD 172 undef, A.getD 173 undef, A.getD 174 undef, A.getD 175 undef, A.getD 176 undef, A.getD 177 undef, A.getD 178 undef, A.getD 179 undef, A.getD 180 undef, A.getD 181 undef, A.getD 182 undef, A.getD 183 undef, A.getD 184 undef, A.getD 185 undef, A.getD 186 undef, A.getD 187 undef, A.getD 188 undef, A.getD 189 undef, A.getD 190 undef, A.getD 191 undef, A.getD 192 undef, A.getD 193 undef, A.getD 194 undef, A.getD 195 undef, A.getD 196 undef, A.getD 197 undef, A.getD 198 undef, A.getD 199 undef, A.getD 200 undef, A.getD 201 undef, A.getD 202 undef, A.getD 203 undef, A.getD 204 undef, A.getD 205 undef, A.getD 206 undef, A.getD 207 undef, A.getD 208 undef, A.getD 209 undef, A.getD 210 undef, A.getD 211 undef, A.getD 212 undef, A.getD 213 undef, A.getD 214 undef, A.getD 215 undef, A.getD 216 undef, A.getD 217 undef, A.getD 218 undef, A.getD 219 undef, A.getD 220 undef, A.getD 221 undef, A.getD 222 undef, A.getD 223 undef, A.getD 224 undef, A.getD 225 undef, A.getD 226 undef, A.getD 227 undef, A.getD 228 undef, A.getD 229 undef, A.getD 230 undef, A.getD 231 undef, A.getD 232 undef, A.getD 233 undef, A.getD 234 undef, A.getD 235 undef, A.getD 236 undef, A.getD 237 undef, A.getD 238 undef, A.getD 239 undef, A.getD 240 undef, A.getD 241 undef, A.getD 242 undef, A.getD 243 undef, A.getD 244 undef, A.getD 245 undef, A.getD 246 undef, A.getD 247 undef, A.getD 248 undef, A.getD 249 undef, A.getD 250 undef, A.getD 251 undef, A.getD 252 undef, A.getD 253 undef, A.getD 254 undef, A.getD 255 undef, A.getD 256 undef, A.getD 257 undef, A.getD 258 undef, A.getD 259 undef, A.getD 260 undef, A.getD 261 undef, A.getD 262 undef, A.getD 263 undef, A.getD 264 undef, A.getD 265 undef, A.getD 266 undef, A.getD 267 undef, A.getD 268 undef, A.getD 269 undef, A.getD 270 undef, A.getD 271 undef, A.getD 272 undef, A.getD 273 undef, A.getD 274 undef, A.getD 275 undef, A.getD 276 undef, A.getD 277 undef, A.getD 278 undef, A.getD 279 undef, A.getD 280 undef, A.getD 281 undef, A.getD 282 undef, A.getD 283 undef, A.getD 284 undef, A.getD 285 undef, A.getD 286 undef, A.getD 287 undef, A.getD 288 undef, A.getD 289 undef, A.getD 290 undef, A.getD 291 undef, A.getD 292 undef, A.getD 293 undef, A.getD 294 undef, A.getD 295 undef, A.getD 296 undef, A.getD 297 undef, A.getD 298 undef, A.getD 299 undef, A.getD 300 undef, A.getD 301 undef, A.getD 302 undef, A.getD 303 undef, A.getD 304 undef, A.getD 305 undef, A.getD 306 undef, A.getD 307 undef, A.getD 308 undef, A.getD 309 undef, A.getD 310 undef, A.getD 311 undef, A.getD 312 undef, A.getD 313 undef, A.getD 314 undef, A.getD 315 undef, A.getD 316 undef, A.getD 317 undef, A.getD 318 undef, A.getD 319 undef, A.getD 320 undef, A.getD 321 undef, A.getD 322 undef, A.getD 323 undef, A.getD 324 undef, A.getD 325 undef, A.getD 326 undef, A.getD 327 undef, A.getD 328 undef, A.getD 329 undef, A.getD 330 undef, A.getD 331 undef, A.getD 332 undef, A.getD 333 undef, A.getD 334 undef, A.getD 335 undef, A.getD 336 undef, A.getD 337 undef, A.getD 338 undef, A.getD 339 undef, A.getD 340 undef, A.getD 341 undef, A.getD 342 undef, A.getD 343 undef, A.getD 344 undef, A.getD 345 undef, A.getD 346 undef, A.getD 347 undef, A.getD 348 undef, A.getD 349 undef, A.getD 350 undef, A.getD 351 undef, A.getD 352 undef, A.getD 353 undef, A.getD 354 undef, A.getD 355 undef, A.getD 356 undef, A.getD 357 undef, A.getD 358 undef, A.getD 359 undef, A.getD 360 undef, A.getD 361 undef, A.getD 362 undef, A.getD 363 undef, A.getD 364 undef, A.getD 365 undef, A.getD 366 undef, A.getD 367 undef, A.getD 368 undef, A.getD 369 undef, A.getD 370 undef, A.getD 371 undef, A.getD 372 undef, A.getD 373 undef, A.getD 374 undef, A.getD 375 undef, A.getD 376 undef, A.getD 377 undef, A.getD 378 undef, A.getD 379 undef, A.getD 380 undef, A.getD 381 undef, A.getD 382 undef, A.getD 383 undef, A.getD 384 undef, A.getD 385 undef, A.getD 386 undef, A.getD 387 undef, A.getD 388 undef, A.getD 389 undef, A.getD 390 undef, A.getD 391 undef, A.getD 392 undef, A.getD 393 undef, A.getD 394 undef, A.getD 395 undef, A.getD 396 undef, A.getD 397 undef, A.getD 398 undef, A.getD 399 undef, A.getD 400 undef, A.getD 401 undef, A.getD 402 undef, A.getD 403 undef, A.getD 404 undef] := by
  have e : A.toList = (List.range 405).map fun k => A.getD k undef := by
    apply List.ext_getElem
    · rw [List.length_map, List.length_range, Array.length_toList, h]
    · intro i h1 h2
      have hi : i < A.size := by rw [Array.length_toList] at h1; exact h1
      rw [List.getElem_map, List.getElem_range, Array.getElem_toList]
      simp [Array.getD, hi]
  exact Array.toList_inj.1 (e.trans rfl)
structure Fr (A : Array Value) (ring : Nat) (vo v17 : Value) (g p k safe : Nat) (first next life mb : Int) (cut : Bool) (va vt : Value) : Prop where
  s : A.size = 405
  e0 : A.getD 0 undef = .int .i64 ring
  e1 : A.getD 1 undef = vo
  e5 : A.getD 5 undef = .pointer (some ⟨g, 0, none⟩)
  e6 : A.getD 6 undef = .pointer (some ⟨p, 0, none⟩)
  e8 : A.getD 8 undef = va
  e9 : A.getD 9 undef = vt
  e10 : A.getD 10 undef = .int .i64 safe
  e11 : A.getD 11 undef = .int .u64 first
  e12 : A.getD 12 undef = .int .u64 next
  e13 : A.getD 13 undef = .int .u64 life
  e14 : A.getD 14 undef = .int .u64 mb
  e15 : A.getD 15 undef = .bool cut
  e16 : A.getD 16 undef = .int .i64 k
  e17 : A.getD 17 undef = v17
section
variable {ring : Nat} {vo v17 : Value} {g p k safe : Nat} {first next life mb : Int} {cut : Bool} {va vt : Value}
set_option maxRecDepth 100000 in
theorem Fr.lit {A : Array Value} (h : Fr A ring vo v17 g p k safe first next life mb cut va vt) : A = #[.int .i64 ring, vo, A.getD 2 undef, A.getD 3 undef, A.getD 4 undef, .pointer (some ⟨g, 0, none⟩), .pointer (some ⟨p, 0, none⟩), A.getD 7 undef, va, vt, .int .i64 safe, .int .u64 first, .int .u64 next, .int .u64 life, .int .u64 mb, .bool cut, .int .i64 k, v17, A.getD 18 undef, A.getD 19 undef, A.getD 20 undef, A.getD 21 undef, A.getD 22 undef, A.getD 23 undef, A.getD 24 undef, A.getD 25 undef, A.getD 26 undef, A.getD 27 undef, A.getD 28 undef, A.getD 29 undef, A.getD 30 undef, A.getD 31 undef, A.getD 32 undef, A.getD 33 undef, A.getD 34 undef, A.getD 35 undef, A.getD 36 undef, A.getD 37 undef, A.getD 38 undef, A.getD 39 undef, A.getD 40 undef, A.getD 41 undef, A.getD 42 undef, A.getD 43 undef, A.getD 44 undef, A.getD 45 undef, A.getD 46 undef, A.getD 47 undef, A.getD 48 undef, A.getD 49 undef, A.getD 50 undef, A.getD 51 undef, A.getD 52 undef, A.getD 53 undef, A.getD 54 undef, A.getD 55 undef, A.getD 56 undef, A.getD 57 undef, A.getD 58 undef, A.getD 59 undef, A.getD 60 undef, A.getD 61 undef, A.getD 62 undef, A.getD 63 undef, A.getD 64 undef, A.getD 65 undef, A.getD 66 undef, A.getD 67 undef, A.getD 68 undef, A.getD 69 undef, A.getD 70 undef, A.getD 71 undef, A.getD 72 undef, A.getD 73 undef, A.getD 74 undef, A.getD 75 undef, A.getD 76 undef, A.getD 77 undef, A.getD 78 undef, A.getD 79 undef, A.getD 80 undef, A.getD 81 undef, A.getD 82 undef, A.getD 83 undef, A.getD 84 undef, A.getD 85 undef, A.getD 86 undef, A.getD 87 undef, A.getD 88 undef, A.getD 89 undef, A.getD 90 undef, A.getD 91 undef, A.getD 92 undef, A.getD 93 undef, A.getD 94 undef, A.getD 95 undef, A.getD 96 undef, A.getD 97 undef, A.getD 98 undef, A.getD 99 undef, A.getD 100 undef, A.getD 101 undef, A.getD 102 undef, A.getD 103 undef, A.getD 104 undef, A.getD 105 undef, A.getD 106 undef, A.getD 107 undef, A.getD 108 undef, A.getD 109 undef, A.getD 110 undef, A.getD 111 undef, A.getD 112 undef, A.getD 113 undef, A.getD 114 undef, A.getD 115 undef, A.getD 116 undef, A.getD 117 undef, A.getD 118 undef, A.getD 119 undef, A.getD 120 undef, A.getD 121 undef, A.getD 122 undef, A.getD 123 undef, A.getD 124 undef, A.getD 125 undef, A.getD 126 undef, A.getD 127 undef, A.getD 128 undef, A.getD 129 undef, A.getD 130 undef, A.getD 131 undef, A.getD 132 undef, A.getD 133 undef, A.getD 134 undef, A.getD 135 undef, A.getD 136 undef, A.getD 137 undef, A.getD 138 undef, A.getD 139 undef, A.getD 140 undef, A.getD 141 undef, A.getD 142 undef, A.getD 143 undef, A.getD 144 undef, A.getD 145 undef, A.getD 146 undef, A.getD 147 undef, A.getD 148 undef, A.getD 149 undef, A.getD 150 undef, A.getD 151 undef, A.getD 152 undef, A.getD 153 undef, A.getD 154 undef, A.getD 155 undef, A.getD 156 undef, A.getD 157 undef, A.getD 158 undef, A.getD 159 undef, A.getD 160 undef, A.getD 161 undef, A.getD 162 undef, A.getD 163 undef, A.getD 164 undef, A.getD 165 undef, A.getD 166 undef, A.getD 167 undef, A.getD 168 undef, A.getD 169 undef, A.getD 170 undef, A.getD 171 undef, A.getD 172 undef, A.getD 173 undef, A.getD 174 undef, A.getD 175 undef, A.getD 176 undef, A.getD 177 undef, A.getD 178 undef, A.getD 179 undef, A.getD 180 undef, A.getD 181 undef, A.getD 182 undef, A.getD 183 undef, A.getD 184 undef, A.getD 185 undef, A.getD 186 undef, A.getD 187 undef, A.getD 188 undef, A.getD 189 undef, A.getD 190 undef, A.getD 191 undef, A.getD 192 undef, A.getD 193 undef, A.getD 194 undef, A.getD 195 undef, A.getD 196 undef, A.getD 197 undef, A.getD 198 undef, A.getD 199 undef, A.getD 200 undef, A.getD 201 undef, A.getD 202 undef, A.getD 203 undef, A.getD 204 undef, A.getD 205 undef, A.getD 206 undef, A.getD 207 undef, A.getD 208 undef, A.getD 209 undef, A.getD 210 undef, A.getD 211 undef, A.getD 212 undef, A.getD 213 undef, A.getD 214 undef, A.getD 215 undef, A.getD 216 undef, A.getD 217 undef, A.getD 218 undef, A.getD 219 undef, A.getD 220 undef, A.getD 221 undef, A.getD 222 undef, A.getD 223 undef, A.getD 224 undef, A.getD 225 undef, A.getD 226 undef, A.getD 227 undef, A.getD 228 undef, A.getD 229 undef, A.getD 230 undef, A.getD 231 undef, A.getD 232 undef, A.getD 233 undef, A.getD 234 undef, A.getD 235 undef, A.getD 236 undef, A.getD 237 undef, A.getD 238 undef, A.getD 239 undef, A.getD 240 undef, A.getD 241 undef, A.getD 242 undef, A.getD 243 undef, A.getD 244 undef, A.getD 245 undef, A.getD 246 undef, A.getD 247 undef, A.getD 248 undef, A.getD 249 undef, A.getD 250 undef, A.getD 251 undef, A.getD 252 undef, A.getD 253 undef, A.getD 254 undef, A.getD 255 undef, A.getD 256 undef, A.getD 257 undef, A.getD 258 undef, A.getD 259 undef, A.getD 260 undef, A.getD 261 undef, A.getD 262 undef, A.getD 263 undef, A.getD 264 undef, A.getD 265 undef, A.getD 266 undef, A.getD 267 undef, A.getD 268 undef, A.getD 269 undef, A.getD 270 undef, A.getD 271 undef, A.getD 272 undef, A.getD 273 undef, A.getD 274 undef, A.getD 275 undef, A.getD 276 undef, A.getD 277 undef, A.getD 278 undef, A.getD 279 undef, A.getD 280 undef, A.getD 281 undef, A.getD 282 undef, A.getD 283 undef, A.getD 284 undef, A.getD 285 undef, A.getD 286 undef, A.getD 287 undef, A.getD 288 undef, A.getD 289 undef, A.getD 290 undef, A.getD 291 undef, A.getD 292 undef, A.getD 293 undef, A.getD 294 undef, A.getD 295 undef, A.getD 296 undef, A.getD 297 undef, A.getD 298 undef, A.getD 299 undef, A.getD 300 undef, A.getD 301 undef, A.getD 302 undef, A.getD 303 undef, A.getD 304 undef, A.getD 305 undef, A.getD 306 undef, A.getD 307 undef, A.getD 308 undef, A.getD 309 undef, A.getD 310 undef, A.getD 311 undef, A.getD 312 undef, A.getD 313 undef, A.getD 314 undef, A.getD 315 undef, A.getD 316 undef, A.getD 317 undef, A.getD 318 undef, A.getD 319 undef, A.getD 320 undef, A.getD 321 undef, A.getD 322 undef, A.getD 323 undef, A.getD 324 undef, A.getD 325 undef, A.getD 326 undef, A.getD 327 undef, A.getD 328 undef, A.getD 329 undef, A.getD 330 undef, A.getD 331 undef, A.getD 332 undef, A.getD 333 undef, A.getD 334 undef, A.getD 335 undef, A.getD 336 undef, A.getD 337 undef, A.getD 338 undef, A.getD 339 undef, A.getD 340 undef, A.getD 341 undef, A.getD 342 undef, A.getD 343 undef, A.getD 344 undef, A.getD 345 undef, A.getD 346 undef, A.getD 347 undef, A.getD 348 undef, A.getD 349 undef, A.getD 350 undef, A.getD 351 undef, A.getD 352 undef, A.getD 353 undef, A.getD 354 undef, A.getD 355 undef, A.getD 356 undef, A.getD 357 undef, A.getD 358 undef, A.getD 359 undef, A.getD 360 undef, A.getD 361 undef, A.getD 362 undef, A.getD 363 undef, A.getD 364 undef, A.getD 365 undef, A.getD 366 undef, A.getD 367 undef, A.getD 368 undef, A.getD 369 undef, A.getD 370 undef, A.getD 371 undef, A.getD 372 undef, A.getD 373 undef, A.getD 374 undef, A.getD 375 undef, A.getD 376 undef, A.getD 377 undef, A.getD 378 undef, A.getD 379 undef, A.getD 380 undef, A.getD 381 undef, A.getD 382 undef, A.getD 383 undef, A.getD 384 undef, A.getD 385 undef, A.getD 386 undef, A.getD 387 undef, A.getD 388 undef, A.getD 389 undef, A.getD 390 undef, A.getD 391 undef, A.getD 392 undef, A.getD 393 undef, A.getD 394 undef, A.getD 395 undef, A.getD 396 undef, A.getD 397 undef, A.getD 398 undef, A.getD 399 undef, A.getD 400 undef, A.getD 401 undef, A.getD 402 undef, A.getD 403 undef, A.getD 404 undef] := by
  conv => lhs; rw [arr405 A h.s, h.e0, h.e1, h.e5, h.e6, h.e8, h.e9, h.e10, h.e11, h.e12, h.e13, h.e14, h.e15, h.e16, h.e17]
end
section
variable {w wr W : World} {p g ring c k : Nat}
/-- The op's block, apart from what the law and the log write. -/
structure KOp (wx : World) (KB : Nat) (cells : Array Value) (S : Nat → Prop) (p : Nat) (va vt : Value) : Prop where
  b : wx.heap[KB]? = some (.cells cells 79 (0, 0))
  s : ¬ S KB
  p : KB ≠ p
  a : blkOf va ≠ some KB
  t : blkOf vt ≠ some KB
theorem KOp.step {wx : World} {KB : Nat} {cells : Array Value} {S S' T : Nat → Prop} {va vt : Value} (h : KOp wx KB cells S p va vt) (hk : Kept wx W T) (hT : ∀ k, T k → S k ∨ k = p) (hS : ∀ k, S' k → S k ∨ wx.heap.size ≤ k) : KOp W KB cells S' p va vt := by
  have hlt := blk_lt h.b
  exact ⟨(hk.block KB hlt (fun q => (hT _ q).elim h.s h.p)).trans h.b, fun q => (hS _ q).elim h.s (fun q => by omega), h.p, h.a, h.t⟩
/-- Behind the switch. -/
def Aft (w : World) (ring : Nat) (vo : Value) (g p k KB : Nat) (life : Int) (cells : Array Value) (A : Array Value) (wx : World) : Prop :=
  ∃ (safe : Nat) (first next mb : Int) (cut : Bool) (va vt : Value), Fr A ring vo (.pointer (some ⟨KB, 0, none⟩)) g p k safe first next life mb cut va vt ∧ wx.heap[KB]? = some (.cells cells 79 (0, 0)) ∧
    ((∃ c S L M f es ws, c ≤ 2 + 3 * k ∧ ¬ S KB ∧ KUp w wx g p ring c va vt safe first next life S L M f es ws ∧ cut = false) ∨ ∃ c S L D es ws ct, c ≤ 2 + 3 * k ∧ ¬ S KB ∧ KDn w wx g ring c va vt safe first life mb cut S L D es ws ct)
/-- At a round's end. -/
def Fin (w : World) (ring : Nat) (vo : Value) (g k : Nat) (A : Array Value) (wx : World) : Prop :=
  ∃ (p safe : Nat) (first next life mb : Int) (va vt v17 : Value), Fr A ring vo v17 g p k safe first next life mb false va vt ∧ ∃ c S L M f es ws, c ≤ 4 + 3 * k ∧ KUp w wx g p ring c va vt safe first next life S L M f es ws
end
end WalKeeps
end Go.Proofs.Ytihmfccpgahmaaa.Wal

namespace Go.Proofs.Ytihmfccpgahmaaa.Wal
open Go Go.RowKit
open Go.Proofs.YtihmfccpgahmaaaW.PrintWords hiding Kept Kept.refl
open Go.Proofs.YtihmfccpgahmaaaW.PrintMore Go.Proofs.YtihmfccpgahmaaaW.PrintLast Go.Proofs.Ytihmfccpgahmaaa.Dk Go.Proofs.Ytihmfccpgahmaaa.Q Go.Proofs.Ytihmfccpgahmaaa.Str Go.Proofs.Ytihmfccpgahmaaa.Leb Go.Proofs.Ytihmfccpgahmaaa.Tl
set_option linter.unusedVariables false
set_option linter.unusedSimpArgs false
namespace WalKeeps
section
variable {w wr W wx : World} {p g ring c k KB : Nat} {S S' T : Nat → Prop} {L L' : LA} {M M' D : DA} {f : Int} {es ws : List (Int × List Int)} {va vt v1 v2 vo : Value} {safe : Nat} {first next life mb : Int} {cut : Bool} {A : Array Value} {o : WpV} {cells : Array Value}
set_option maxRecDepth 100000 in
set_option maxHeartbeats 8000000 in
theorem sw_force (HF : Fr A ring vo (.pointer (some ⟨KB, 0, none⟩)) g p k safe first next life mb false va vt) (h70 : A.getD 70 undef = .int .i64 o.k) (hO : o.k = 1) (HK : KUp w wx g p ring c va vt safe first next life S L M f es ws) (hc : c ≤ 1 + 3 * k) (hk : k < 40) (hr : ring ≤ 34) (HB : KOp wx KB cells S p va vt) 
    (Q : Exit → Act → World → Prop) (hQ : ∀ A' w', Aft w ring vo g p k KB life cells A' w' → Q .normal ⟨A', []⟩ w') : Code.wp Try.prog (swC Try.f17) Q ⟨A, []⟩ wx := by
  obtain ⟨A1, c1, A2, c2, n, rfl, rfl, hn, hn1, hn2⟩ := HK.r.form
  have hnl := Aside0.mk hn
  rw [hO] at h70
  show Code.wp Try.prog (Code.block 2 _) Q ⟨A, []⟩ wx
  rw [HF.lit, h70]
  have HK := Aside0.mk (And.intro HK (And.intro hc hk))
  have HB := Aside0.mk HB
  have HQ := Aside0.mk hQ
  have hx : n ≤ 34 := by have := HK.out.1.len (by omega); omega
  clear h70 HF hQ hc hk hn hn1 hn2 hr
  go_wp2_with fail
  refine (HK.out.1.force (by have := HK.out; omega)).mono ?_
  rintro e w1 ⟨hk2, ⟨rfl, L1, M1, f1, hu⟩ | ⟨rfl, D, hd⟩⟩
  all_goals have HB1 := Aside0.mk (HB.out.step hk2 (fun _ q => q) (fun _ q => .inl q))
  all_goals clear hk2
  · have HU := Aside0.mk hu
    rw [← hnl.out] at HU
    clear hu
    go_wp2
    refine HQ.out _ _ ⟨n, first, next, mb, false, _, _, ⟨rfl, rfl, rfl, rfl, rfl, rfl, rfl, rfl, rfl, rfl, rfl, rfl, rfl, rfl, rfl⟩, HB1.out.b, .inl ⟨c, S, L1, M1, f1, _, _, by have := HK.out; omega, HB1.out.s, HU.out, rfl⟩⟩
  · have HU := Aside0.mk hd
    clear hd
    go_wp2
    refine HQ.out _ _ ⟨safe, first, next, mb, false, _, _, ⟨rfl, rfl, rfl, rfl, rfl, rfl, rfl, rfl, rfl, rfl, rfl, rfl, rfl, rfl, rfl⟩, HB1.out.b, .inr ⟨c, S, L, D, _, _, _, by have := HK.out; omega, HB1.out.s, HU.out.mb mb⟩⟩
set_option maxRecDepth 100000 in
set_option maxHeartbeats 8000000 in
theorem sw_fuse (HF : Fr A ring vo (.pointer (some ⟨KB, 0, none⟩)) g p k safe first next life mb false va vt) (h70 : A.getD 70 undef = .int .i64 o.k) (hO : o.k = 4) (HK : KUp w wx g p ring c va vt safe first next life S L M f es ws) (hc : c ≤ 1 + 3 * k) (hk : k < 40) (hr : ring ≤ 34) (HB : KOp wx KB #[.int .i64 o.k, .int .i64 o.n, v1, v2] S p va vt)
    (Q : Exit → Act → World → Prop) (hQ : ∀ A' w', Aft w ring vo g p k KB life #[.int .i64 o.k, .int .i64 o.n, v1, v2] A' w' → Q .normal ⟨A', []⟩ w') : Code.wp Try.prog (swC Try.f17) Q ⟨A, []⟩ wx := by
  have y1 : wx.cell? ⟨KB, 1, none⟩ = some (.int .i64 o.n) := (blk_cell HB.b 1).trans rfl
  obtain ⟨n, hn⟩ : ∃ n : Nat, bits .and .i64 o.n 15 = (n : Int) := ⟨(o.n % 16).toNat, by rw [Bits.and_15]; omega⟩
  have hn2 : n ≤ 15 := by have := Bits.and_15 o.n; omega
  rw [hO] at h70
  show Code.wp Try.prog (Code.block 2 _) Q ⟨A, []⟩ wx
  rw [HF.lit, h70]
  have HK := Aside0.mk (And.intro HK (And.intro hc hk))
  have HB := Aside0.mk HB
  have HQ := Aside0.mk hQ
  clear h70 HF hQ hc hk hr
  go_wp2_with fail
  refine (st_fuse HK.out.1.l.G.D n (by omega)).mono ?_
  rintro e w1 ⟨rfl, hst, hk2⟩
  have HB1 := Aside0.mk (HB.out.step hk2 (fun _ q => .inl q) (fun _ q => .inl q))
  have HU := Aside0.mk (HK.out.1.kset n (by omega) hst hk2)
  clear hst hk2
  go_wp2
  refine HQ.out _ _ ⟨safe, first, next, mb, false, _, _, ⟨rfl, rfl, rfl, rfl, rfl, rfl, rfl, rfl, rfl, rfl, rfl, rfl, rfl, rfl, rfl⟩, HB1.out.b, .inl ⟨c, S, L, M, _, _, _, by have := HK.out; omega, HB1.out.s, HU.out, rfl⟩⟩
set_option maxRecDepth 100000 in
set_option maxHeartbeats 8000000 in
theorem sw_none (HF : Fr A ring vo (.pointer (some ⟨KB, 0, none⟩)) g p k safe first next life mb false va vt) (h70 : A.getD 70 undef = .int .i64 o.k) (hO : o.k ≠ 0 ∧ o.k ≠ 1 ∧ o.k ≠ 2 ∧ o.k ≠ 4) (HK : KUp w wx g p ring c va vt safe first next life S L M f es ws) (hc : c ≤ 1 + 3 * k) (hk : k < 40) (hr : ring ≤ 34) (HB : KOp wx KB cells S p va vt)
    (Q : Exit → Act → World → Prop) (hQ : ∀ A' w', Aft w ring vo g p k KB life cells A' w' → Q .normal ⟨A', []⟩ w') : Code.wp Try.prog (swC Try.f17) Q ⟨A, []⟩ wx := by
  show Code.wp Try.prog (Code.block 2 _) Q ⟨A, []⟩ wx
  rw [HF.lit, h70]
  have HK := Aside0.mk (And.intro HK (And.intro hc hk))
  have HB := Aside0.mk HB
  have HQ := Aside0.mk hQ
  have e0 : (o.k == 0) = false := beq_eq_false_iff_ne.2 hO.1
  have e1 : (o.k == 1) = false := beq_eq_false_iff_ne.2 hO.2.1
  have e2 : (o.k == 2) = false := beq_eq_false_iff_ne.2 hO.2.2.1
  have e4 : (o.k == 4) = false := beq_eq_false_iff_ne.2 hO.2.2.2
  clear h70 HF hQ hc hk hr hO
  go_wp2
  refine HQ.out _ _ ⟨safe, first, next, mb, false, _, _, ⟨rfl, rfl, rfl, rfl, rfl, rfl, rfl, rfl, rfl, rfl, rfl, rfl, rfl, rfl, rfl⟩, HB.out.b, .inl ⟨c, S, L, M, _, _, _, by have := HK.out; omega, HB.out.s, HK.out.1, rfl⟩⟩
end
end WalKeeps
end Go.Proofs.Ytihmfccpgahmaaa.Wal

namespace Go.Proofs.Ytihmfccpgahmaaa.Wal
open Go Go.RowKit
open Go.Proofs.YtihmfccpgahmaaaW.PrintWords hiding Kept Kept.refl
open Go.Proofs.YtihmfccpgahmaaaW.PrintMore Go.Proofs.YtihmfccpgahmaaaW.PrintLast Go.Proofs.Ytihmfccpgahmaaa.Dk Go.Proofs.Ytihmfccpgahmaaa.Q Go.Proofs.Ytihmfccpgahmaaa.Str Go.Proofs.Ytihmfccpgahmaaa.Leb Go.Proofs.Ytihmfccpgahmaaa.Tl
set_option linter.unusedVariables false
set_option linter.unusedSimpArgs false
namespace WalKeeps
section
variable {w wr W wx : World} {p g ring c k KB : Nat} {S S' T : Nat → Prop} {L L' : LA} {M M' D : DA} {f : Int} {es ws : List (Int × List Int)} {va vt v1 v2 vo : Value} {safe : Nat} {first next life mb : Int} {cut : Bool} {A : Array Value} {o : WpV} {cells : Array Value}
set_option maxRecDepth 100000 in
set_option maxHeartbeats 8000000 in
/-- From Cut on. -/
theorem cut_tail {j : Nat} {lsn : Int} (HF : Fr A ring vo (.pointer (some ⟨KB, 0, none⟩)) g p k safe first next life mb false va vt) (h23 : A.getD 23 undef = .int .i64 j) (h24 : A.getD 24 undef = .int .u64 lsn) (hj : j ≤ (es ++ ws).length) (hl : lsn = first + szs ((es ++ ws).take j)) (HK : KUp w wx g p ring c va vt safe first next life S L M f es ws) (hc : c ≤ 1 + 3 * k) (hk : k < 40) (hr : ring ≤ 34) (HB : KOp wx KB cells S p va vt)
    (Q : Exit → Act → World → Prop) (hQ : ∀ A' w', Aft w ring vo g p k KB life cells A' w' → Q .normal ⟨A', []⟩ w') (K : Act → World → Prop) (hK : ∀ a w, Code.wp Try.prog (cr (cutT Try.f17)) Q a w → K a w) : Code.wp Try.prog (cl (cutT Try.f17)) (Exit.then K Q) ⟨A, []⟩ wx := by
  replace hK : ∀ a w, Code.wp Try.prog (Code.seq _ _) Q a w → K a w := hK
  obtain ⟨A1, c1, A2, c2, n, rfl, rfl, hn, hn1, hn2⟩ := HK.r.form
  have hnl := Aside0.mk hn
  show Code.wp Try.prog (Code.region _ _ _) (Exit.then K Q) ⟨A, []⟩ wx
  rw [HF.lit, h23, h24]
  rw [← hn] at hj
  have hx : n ≤ 34 := by have := HK.len (by omega); omega
  have HK := Aside0.mk (And.intro HK (And.intro hc hk))
  have HB := Aside0.mk HB
  have HQ := Aside0.mk hQ
  have HL := Aside0.mk hl
  clear h23 h24 HF hQ hc hk hn hr hl
  go_wp2_with fail
  refine (HK.out.1.cut (by have := HK.out; omega) j (by rw [← hnl.out]; exact hj) HL.out).mono ?_
  rintro e w1 ⟨hk2, S', hS, ⟨rfl, L1, M1, f1, kl, kr, x1, x2, x3, x4, x5, x6⟩ | ⟨rfl, D, hd⟩⟩
  all_goals have HB1 := Aside0.mk (HB.out.step hk2 (fun _ q => q) hS)
  all_goals clear hk2
  · have HU := Aside0.mk (cut_up kl kr hnl.out hj x1 x2 x3 x4 x5 x6)
    clear kl kr x1 x2 x3 x4 x5 x6 hS
    have hj1 : j ≤ c1 := by omega
    have hj2 : j ≤ c2 := by omega
    have hsub : (n : Int) - (j : Int) = ((n - j : Nat) : Int) := by omega
    have hu := HU.out
    clear HU
    by_cases q1 : c1 = j
    all_goals by_cases q2 : c2 = j
    all_goals simp only [q1, q2, if_true, if_false, Nat.sub_self] at hu
    all_goals have HU := Aside0.mk hu
    all_goals clear hu
    all_goals go_wp2
    all_goals refine HQ.out _ _ ⟨n - j, lsn, next, mb, false, _, _, ⟨rfl, rfl, rfl, rfl, rfl, rfl, rfl, rfl, rfl, rfl, rfl, rfl, rfl, rfl, rfl⟩, HB1.out.b, .inl ⟨c + 1, S', L1, M1, f1, _, _, by have := HK.out; omega, HB1.out.s, HU.out, rfl⟩⟩
  · have HU := Aside0.mk hd
    clear hd hS
    go_wp2
    refine HQ.out _ _ ⟨safe, first, next, lsn, true, _, _, ⟨rfl, rfl, rfl, rfl, rfl, rfl, rfl, rfl, rfl, rfl, rfl, rfl, rfl, rfl, rfl⟩, HB1.out.b, .inr ⟨c, S', L, D, _, _, _, by have := HK.out; omega, HB1.out.s, HU.out⟩⟩
set_option maxRecDepth 100000 in
set_option maxHeartbeats 8000000 in
theorem sw_cut (HF : Fr A ring vo (.pointer (some ⟨KB, 0, none⟩)) g p k safe first next life mb false va vt) (h70 : A.getD 70 undef = .int .i64 o.k) (hO : o.k = 2) (HK : KUp w wx g p ring c va vt safe first next life S L M f es ws) (hc : c ≤ 1 + 3 * k) (hk : k < 40) (hr : ring ≤ 34) (HB : KOp wx KB #[.int .i64 o.k, .int .i64 o.n, v1, v2] S p va vt)
    (Q : Exit → Act → World → Prop) (hQ : ∀ A' w', Aft w ring vo g p k KB life #[.int .i64 o.k, .int .i64 o.n, v1, v2] A' w' → Q .normal ⟨A', []⟩ w') : Code.wp Try.prog (swC Try.f17) Q ⟨A, []⟩ wx := by
  obtain ⟨A1, c1, A2, c2, n, rfl, rfl, hn, hn1, hn2⟩ := HK.r.form
  have hnl := Aside0.mk hn
  have y1 : wx.cell? ⟨KB, 1, none⟩ = some (.int .i64 o.n) := (blk_cell HB.b 1).trans rfl
  obtain ⟨m, hm⟩ : ∃ m : Nat, bits .and .i64 o.n 65535 = (m : Int) := ⟨(o.n % 65536).toNat, by rw [Bits.and_65535]; omega⟩
  rw [hO] at h70
  show Code.wp Try.prog (Code.block 2 _) Q ⟨A, []⟩ wx
  rw [HF.lit, h70]
  have hx : n ≤ 34 := by have := HK.len (by omega); omega
  have HK := Aside0.mk (And.intro HK (And.intro hc (And.intro hk hr)))
  have HB := Aside0.mk HB
  have HQ := Aside0.mk hQ
  clear h70 HF hQ hc hk hn hr
  by_cases h0 : n = 0
  · subst h0
    go_upto_region 47 with fail
    refine cut_tail (j := 0) (lsn := next) (va := .slice A1 0 c1) (vt := .slice A2 0 c2) ⟨rfl, rfl, rfl, rfl, rfl, rfl, rfl, rfl, rfl, rfl, rfl, rfl, rfl, rfl, rfl⟩ rfl rfl (Nat.zero_le _) (by have h1 := (HK.out.1.nums (by have := HK.out; omega)).2.1; have h2 := List.eq_nil_of_length_eq_zero hnl.out.symm; rw [h2] at h1; exact h1) HK.out.1 HK.out.2.1 HK.out.2.2.1 HK.out.2.2.2 HB.out _ ?_ _ (by assumption)
    intro A' w' h
    go_wp2
    exact HQ.out _ _ h
  · have hz : ¬ ((n : Int) + 1 = 0) := by omega
    have hz2 : (((n : Int) + 1) == 0) = false := beq_eq_false_iff_ne.2 hz
    have hw : 0 < n := by omega
    clear h0
    go_upto_region 44 with fail
    obtain ⟨j, hj⟩ : ∃ j : Nat, (m : Int) % ((n : Int) + 1) = (j : Int) := ⟨((m : Int) % ((n : Int) + 1)).toNat, (Int.toNat_of_nonneg (Int.emod_nonneg _ hz)).symm⟩
    have hjn : j ≤ n := by have := Int.emod_lt_of_pos (m : Int) (show (0 : Int) < (n : Int) + 1 by omega); omega
    rw [hj]
    clear hj hm hz hz2 y1
    by_cases hlt : j < n
    · have hjl := hlt
      obtain ⟨g3, off, c3, ha, hcell⟩ := HK.out.1.r.rt.cell j (by rw [ats_len, ← hnl.out]; exact hlt)
      injection ha with ha _ hc3
      subst ha
      have hg := ats_get (es ++ ws) L.start j (by rw [← hnl.out]; exact hlt)
      rw [List.getElem?_eq_getElem (by rw [ats_len, ← hnl.out]; exact hlt)] at hg
      injection hg with hg
      rw [hg, ← HK.out.1.fi] at hcell
      clear hg hc3
      go_upto_region 47 with fail
      refine cut_tail (j := j) (lsn := first + szs ((es ++ ws).take j)) (va := .slice A1 n c1) (vt := .slice (some ⟨g3, off, none⟩) n c2) ⟨rfl, rfl, rfl, rfl, rfl, rfl, rfl, rfl, rfl, rfl, rfl, rfl, rfl, rfl, rfl⟩ rfl rfl (by rw [← hnl.out]; omega) (rfl) HK.out.1 HK.out.2.1 HK.out.2.2.1 HK.out.2.2.2 HB.out _ ?_ _ (by assumption)
      intro A' w' h
      go_wp2
      exact HQ.out _ _ h
    · have hjn2 : j = n := by omega
      subst hjn2
      clear hlt hjn
      go_upto_region 47 with fail
      refine cut_tail (j := j) (lsn := next) (va := .slice A1 j c1) (vt := .slice A2 j c2) ⟨rfl, rfl, rfl, rfl, rfl, rfl, rfl, rfl, rfl, rfl, rfl, rfl, rfl, rfl, rfl⟩ rfl rfl (by rw [← hnl.out]; omega) (by rw [hnl.out, List.take_length]; exact (HK.out.1.nums (by have := HK.out; omega)).2.1) HK.out.1 HK.out.2.1 HK.out.2.2.1 HK.out.2.2.2 HB.out _ ?_ _ (by assumption)
      intro A' w' h
      go_wp2
      exact HQ.out _ _ h
end
end WalKeeps
end Go.Proofs.Ytihmfccpgahmaaa.Wal

namespace Go.Proofs.Ytihmfccpgahmaaa.Wal
open Go Go.RowKit
open Go.Proofs.YtihmfccpgahmaaaW.PrintWords hiding Kept Kept.refl
open Go.Proofs.YtihmfccpgahmaaaW.PrintMore Go.Proofs.YtihmfccpgahmaaaW.PrintLast Go.Proofs.Ytihmfccpgahmaaa.Dk Go.Proofs.Ytihmfccpgahmaaa.Q Go.Proofs.Ytihmfccpgahmaaa.Str Go.Proofs.Ytihmfccpgahmaaa.Leb Go.Proofs.Ytihmfccpgahmaaa.Tl
set_option linter.unusedVariables false
set_option linter.unusedSimpArgs false
theorem full_append {L : LA} {M : DA} {l : List Int} (hl : l.length ≤ 16384) (hr : L.free < needN l.length) : L.append M l = ⟨0, 10, L, M⟩ := by
  unfold LA.append
  rw [if_neg (by omega), if_pos hr]
theorem need_n (n : Nat) (h : n ≤ 100000) (w : World) : Calls Try.prog 34 #[.int .i64 (n : Int)] w fun e w' => e = .returned (.int .i64 ((needN n : Nat) : Int)) ∧ Below w.heap.size w w' := by
  rw [← need_N]
  exact need_r n (by omega) (by omega) w
theorem infoTS : (Try.prog.info? 9).map (fun i => (i.zero, i.size, i.bytes)) = some (some (.string ByteArray.empty), 1, 16) := by kernel_rfl
theorem infoTU : (Try.prog.info? 55).map (fun i => (i.zero, i.size, i.bytes)) = some (some (.int .u64 0), 1, 8) := by kernel_rfl
section
variable {w wr W : World} {p g ring c : Nat} {S : Nat → Prop} {L : LA} {M : DA} {f : Int} {es ws : List (Int × List Int)} {va vt : Value} {safe : Nat} {first next life : Int}
theorem KUp.append_full (h : KUp w wr g p ring c va vt safe first next life S L M f es ws) (hc : c ≤ 10000) (A : Option Addr) (cc : Nat) (l : List Int) (hC : ∀ W', Kept wr W' (fun k => S k ∨ k = p) → Kd.C (Kd.int .u8) W' A l.length l) (hcc : l.length ≤ cc) (hY : Byt l) (hl : l.length ≤ 16384) (hr : L.free < needN l.length) :
    Calls Try.prog 36 #[.pointer (some ⟨p, 0, none⟩), .slice A l.length cc] wr fun e w' => e = .returned (.tuple #[.int .u64 0, .int .i64 10]) ∧ ∃ S', (∀ k, S' k → S k ∨ wr.heap.size ≤ k) ∧ Kept wr w' (fun k => S k ∨ k = p) ∧ KUp w w' g p ring c va vt safe first next life S' L M f es ws := by
  obtain ⟨k1, k2, k3⟩ := h.l.ok hc
  have hx := h.l.I.C.x1
  have q := append_l h.l.G k1 A cc l hC hcc hY (by omega) (by omega)
  rw [full_append hl hr] at q
  refine q.mono ?_
  rintro e w' ⟨rfl, S', hg, hs, hk⟩
  exact ⟨rfl, S', hs, hk, { h with
    l := ⟨hg, h.l.I, h.l.f0⟩
    r := h.r.step hk (fun _ q => q) (fun q hq => hq.elim (fun hq => (hs q hq).imp .inl id) (fun hq => .inl (.inr hq))) }⟩
end
/-- Behind Append. -/
def AP (w W : World) (p g ring c : Nat) (S : Nat → Prop) (first next life : Int) (es ws : List (Int × List Int)) (l : List Int) (x er : Int) : Prop :=
  Below w.heap.size w W ∧ p < W.heap.size ∧ (∀ k, S k → k < W.heap.size) ∧
    ((er = 0 ∧ x = next ∧ ∃ L' M' f', KL w W p g S (ring + 5) (c + 1) L' M' f' es (ws ++ [(life, l)]) ∧ L'.next = next + needN l.length ∧ L'.life = life ∧ L'.start = first ∧ L'.fr = 2 ∧ L'.ring = ring) ∨
     (er = 8 ∧ ∃ L' D, KD w W g S (ring + 5) (c + 1) L' D es (ws ++ [(life, l)]) none ∧ L'.life = life ∧ L'.start = first ∧ L'.fr = 2 ∧ L'.ring = ring))
section
variable {w wr W : World} {p g ring c : Nat} {S : Nat → Prop} {es ws : List (Int × List Int)} {va vt v1 : Value} {first next life x er : Int} {l : List Int}
theorem KD.below {N : Nat} {L : LA} {D : DA} {cut : Option (Int × List (Int × List Int))} (h : KD w wr g S N c L D es ws cut) (hb : Below wr.heap.size wr W) : KD w W g S N c L D es ws cut := ⟨h.st.below hb, h.d, h.w, h.F⟩
theorem AP.below (h : AP w wr p g ring c S first next life es ws l x er) (hb : Below wr.heap.size wr W) : AP w W p g ring c S first next life es ws l x er := by
  obtain ⟨h1, h2, h3, h4⟩ := h
  refine ⟨below_step h1 hb, Nat.lt_of_lt_of_le h2 hb.size, fun k hk => Nat.lt_of_lt_of_le (h3 k hk) hb.size, ?_⟩
  rcases h4 with ⟨a, b, L', M', f', kl, q⟩ | ⟨a, L', D, kd, q⟩
  · exact .inl ⟨a, b, L', M', f', kl.below hb, q⟩
  · exact .inr ⟨a, L', D, kd.below hb, q⟩
theorem AP.grown (h : AP w wr p g ring c S first next life es ws l x er) {row : Option Nat} (hg : wr.grownBy W row) (hn : ∀ k, row = some k → ¬ (S k ∨ k = p)) (hB : Below w.heap.size w W) : AP w W p g ring c S first next life es ws l x er := by
  obtain ⟨h1, h2, h3, h4⟩ := h
  refine ⟨hB, Nat.lt_of_lt_of_le h2 hg.size, fun k hk => Nat.lt_of_lt_of_le (h3 k hk) hg.size, ?_⟩
  rcases h4 with ⟨a, b, L', M', f', kl, q⟩ | ⟨a, L', D, kd, q⟩
  · exact .inl ⟨a, b, L', M', f', kl.grown hg hn hB, q⟩
  · exact .inr ⟨a, L', D, kd.grown hg (fun k hk hs => hn k hk (.inl hs)) hB, q⟩
theorem AP.rowA (h : AP w wr p g ring c S first next life es ws l x er) {al al' : List ByteArray} {at_ : List Int} (hr : KR w wr (fun k => S k ∨ k = p) va vt al at_) (ht : TR Value.string 9 w.heap.size W v1 al') (hl : 0 < al'.length) (hg : wr.grownBy W (blkOf va)) (hat : blkOf v1 = blkOf va ∨ ∃ b, blkOf v1 = some b ∧ wr.heap.size ≤ b) (hB : Below w.heap.size w W) :
    AP w W p g ring c S first next life es ws l x er ∧ KR w W (fun k => S k ∨ k = p) v1 vt al' at_ :=
  ⟨h.grown hg (fun k hk => (hr.na k hk).1) hB, hr.growA ht hg hat (TR.lt ht hl) (fun k hk => hk.elim (h.2.2.1 k) (fun e => by rw [e]; exact h.2.1))⟩
theorem AP.rowT (h : AP w wr p g ring c S first next life es ws l x er) {al : List ByteArray} {at_ at' : List Int} (hr : KR w wr (fun k => S k ∨ k = p) va vt al at_) (ht : TR (Value.int .u64) 55 w.heap.size W v1 at') (hl : 0 < at'.length) (hg : wr.grownBy W (blkOf vt)) (hat : blkOf v1 = blkOf vt ∨ ∃ b, blkOf v1 = some b ∧ wr.heap.size ≤ b) (hB : Below w.heap.size w W) :
    AP w W p g ring c S first next life es ws l x er ∧ KR w W (fun k => S k ∨ k = p) va v1 al at' :=
  ⟨h.grown hg (fun k hk => (hr.nt k hk).1) hB, hr.growT ht hg hat (TR.lt ht hl) (fun k hk => hk.elim (h.2.2.1 k) (fun e => by rw [e]; exact h.2.1))⟩
theorem rows_app (es ws : List (Int × List Int)) (life first : Int) (l : List Int) : strs (es ++ (ws ++ [(life, l)])) = strs (es ++ ws) ++ [strOfNums l] ∧ ats first (es ++ (ws ++ [(life, l)])) = ats first (es ++ ws) ++ [first + szs (es ++ ws)] := by
  rw [← List.append_assoc, strs_app, ats_app]
  exact ⟨rfl, rfl⟩
end
namespace WalKeeps
theorem KOp.growA {wx W : World} {KB p : Nat} {cells : Array Value} {S : Nat → Prop} {va vt v1 : Value} (h : KOp wx KB cells S p va vt) (hg : wx.grownBy W (blkOf va)) (hat : blkOf v1 = blkOf va ∨ ∃ b, blkOf v1 = some b ∧ wx.heap.size ≤ b) : KOp W KB cells S p v1 vt := by
  have hlt := blk_lt h.b
  refine ⟨(hg.block KB hlt (fun q => h.a q.symm)).trans h.b, h.s, h.p, fun q => ?_, h.t⟩
  rcases hat with e | ⟨b, e, hb⟩
  · exact h.a (e.symm.trans q)
  · rw [e] at q; injection q with q; omega
theorem KOp.growT {wx W : World} {KB p : Nat} {cells : Array Value} {S : Nat → Prop} {va vt v1 : Value} (h : KOp wx KB cells S p va vt) (hg : wx.grownBy W (blkOf vt)) (hat : blkOf v1 = blkOf vt ∨ ∃ b, blkOf v1 = some b ∧ wx.heap.size ≤ b) : KOp W KB cells S p va v1 := by
  have hlt := blk_lt h.b
  refine ⟨(hg.block KB hlt (fun q => h.t q.symm)).trans h.b, h.s, h.p, h.a, fun q => ?_⟩
  rcases hat with e | ⟨b, e, hb⟩
  · exact h.t (e.symm.trans q)
  · rw [e] at q; injection q with q; omega
section
variable {w wr W wx : World} {p g ring c k KB : Nat} {S S' T : Nat → Prop} {L L' : LA} {M M' D : DA} {f : Int} {es ws : List (Int × List Int)} {va vt v1 v2 vo : Value} {safe : Nat} {first next life mb : Int} {cut : Bool} {A : Array Value} {o : WpV} {cells : Array Value}
set_option maxRecDepth 100000 in
set_option maxHeartbeats 8000000 in
theorem sw_app (HF : Fr A ring vo (.pointer (some ⟨KB, 0, none⟩)) g p k safe first next life mb false va vt) (h70 : A.getD 70 undef = .int .i64 o.k) (hO : o.k = 0) (HK : KUp w wx g p ring c va vt safe first next life S L M f es ws) (hc : c ≤ 1 + 3 * k) (hk : k < 40) (hr : ring ≤ 34) (HB : KOp wx KB #[.int .i64 o.k, .int .i64 o.n, v1, v2] S p va vt)
    (Q : Exit → Act → World → Prop) (hQ : ∀ A' w', Aft w ring vo g p k KB life #[.int .i64 o.k, .int .i64 o.n, v1, v2] A' w' → Q .normal ⟨A', []⟩ w') : Code.wp Try.prog (swC Try.f17) Q ⟨A, []⟩ wx := by
  have y1 : wx.cell? ⟨KB, 1, none⟩ = some (.int .i64 o.n) := (blk_cell HB.b 1).trans rfl
  obtain ⟨n, hn⟩ : ∃ n : Nat, bits .and .i64 o.n 2047 = (n : Int) := ⟨(o.n % 2048).toNat, by rw [Bits.and_2047]; omega⟩
  have hn2 : n ≤ 2047 := by have := Bits.and_2047 o.n; omega
  obtain ⟨r, hrs, hrw⟩ := bytes_v n hn2 (k : Int)
  have HN := Aside0.mk hn2
  have HRS := Aside0.mk hrs
  have HRW := Aside0.mk hrw
  rw [hO] at h70
  show Code.wp Try.prog (Code.block 2 _) Q ⟨A, []⟩ wx
  rw [HF.lit, h70]
  have HK := Aside0.mk (And.intro HK (And.intro hc (And.intro hk hr)))
  have HB := Aside0.mk HB
  have HQ := Aside0.mk hQ
  clear h70 HF hQ hc hk hr hn2 hrs hrw
  go_wp2_with fail
  refine (HRW.out _).mono ?_
  rintro e w1 ⟨rfl, hb⟩
  have HK1 := Aside0.mk (HK.out.1.below hb)
  have HB1 := Aside0.mk (HB.out.step (Dk.Kept.of_below hb (fun _ => False)) (fun _ q => q.elim) (fun k q => .inl q))
  clear hb y1 hn
  have hcv := fun (W : World) => print_bytes (P := Try.prog) 9 22 5 Try.underlying9 Try.underlying22 Try.underlying5 r W
  go_wp2_with fail
  have hcap : (bytesOf r).length ≤ grownCap w1 r.size 0 5 := by rw [bytesOf_length]; exact grownCap_ge _ _ _ _
  have hb2 := bytes_below (Below.refl w1.heap.size w1) (Nat.le_refl _) 5 r
  have HK2 := Aside0.mk (HK1.out.below hb2)
  have HB2 := Aside0.mk (HB1.out.step (Dk.Kept.of_below hb2 (fun _ => False)) (fun _ q => q.elim) (fun k q => .inl q))
  have HC := Aside0.mk (show ∀ W', Kept (Lib.bytesWorld w1 5 r) W' (fun k => S k ∨ k = p) → Kd.C (Kd.int .u8) W' (some ⟨w1.heap.size, 0, none⟩) (bytesOf r).length (bytesOf r) from
    fun W' hk2 => conv_C (by have := HRS.out; have := HN.out; omega) (hk2.block _ (by rw [Lib.bytesWorld_size]; omega) (fun h => h.elim (fun h => by have := (HK1.out.l.G.D.lt _ h).2; omega) (fun h => by have := HK1.out.l.G.lt; omega))))
  obtain ⟨nd, hnd⟩ : ∃ m, m = needN n := ⟨_, rfl⟩
  have hnd5 : nd ≤ 5 := by have := HN.out; rw [hnd]; unfold needN; omega
  have hlen : (bytesOf r).length = n := by rw [bytesOf_length, HRS.out]
  obtain ⟨f0, f1, f2, f3, f4, f5, f6⟩ := HK.out.1.nums (by have := HK.out; omega)
  have f7 := szs_nn (es ++ ws)
  have HND := Aside0.mk (And.intro hnd (And.intro hlen f6))
  have fx1 : first ≤ next := by omega
  have fx4 : ring ≤ 34 := HK.out.2.2.2
  clear hb2 hcv hnd hlen f6 f7 f1 HB1 HRW
  by_cases hroom : (nd : Int) ≤ (ring : Int) - (next - first)
  · have hdec : decide ((ring : Int) - (next - first) < (nd : Int)) = false := decide_eq_false (by omega)
    refine (calls_of_args (args' := #[.pointer (some ⟨p, 0, none⟩), .slice (some ⟨w1.heap.size, 0, none⟩) (bytesOf r).length (grownCap w1 r.size 0 5)]) (by rw [bytesOf_length]) (HK2.out.append (by have := HK.out; omega) _ _ (bytesOf r) HC.out hcap (byt_str r) (by have := HND.out; have := HN.out; omega) (by have h1 := HND.out; rw [h1.2.1, ← h1.1, h1.2.2]; omega))).mono ?_
    rintro e w2 ⟨S', hS, hk2, kr, hh⟩
    have HB3 := Aside0.mk (HB2.out.step hk2 (fun _ q => q) hS)
    obtain ⟨x, er, rfl, hap⟩ : ∃ x er, e = .returned (.tuple #[.int .u64 x, .int .i64 er]) ∧ AP w w2 p g ring c S' first next life es ws (bytesOf r) x er := by
      have hp := Nat.lt_of_lt_of_le HK2.out.l.G.lt hk2.size
      rcases hh with ⟨he, L1, M1, f1, kl, q⟩ | ⟨x, he, L1, D, kd, q⟩
      · exact ⟨next, 0, he, kl.G.D.B, hp, fun k hk => (kl.G.D.lt k hk).2, .inl ⟨rfl, rfl, L1, M1, f1, kl, q⟩⟩
      · exact ⟨x, 8, he, kd.st.B, hp, fun k hk => (kd.st.lt k hk).2, .inr ⟨rfl, L1, D, kd, q⟩⟩
    have HP3 := Aside0.mk hap
    have HR3 := Aside0.mk kr
    have hLN := Aside0.mk (show (es ++ ws).length ≤ 34 by have := HK.out.1.len (by have := HK.out; omega); omega)
    clear hS hk2 kr hh hap HC HK2 HB2 hcap HK1
    go_wp2_with fail
    refine (need_n n (by have := HN.out; omega) _).mono ?_
    rw [← HND.out.1]
    rintro e w3 ⟨rfl, hb⟩
    have HP4 := Aside0.mk (HP3.out.below hb)
    have HR4 := Aside0.mk (HR3.out.below hb)
    have HB4 := Aside0.mk (HB3.out.step (Dk.Kept.of_below hb (fun _ => False)) (fun _ q => q.elim) (fun k q => .inl q))
    clear hb HP3 HR3 HB3
    go_upto_region 30 with (at_builtin; refine TR.append (enc := Value.string) (fun _ => rfl) (w0 := w) w.heap.size rfl (.tmp 97) (.tmp 99) 40 9 (.string ByteArray.empty) 16 rfl Try.underlying40 infoTS rfl (by decide) va (strs (es ++ ws)) r rfl rfl HR4.out.ra HP4.out.1 HP4.out.1.size (by rw [strs_len]; have := hLN.out; omega) ?_; intro v8 w4 ht hB hg hat; have HQ5 := Aside0.mk (HP4.out.rowA HR4.out ht (by rw [List.length_append]; exact Nat.succ_pos _) hg hat hB); have HB5 := Aside0.mk (KOp.growA HB4.out hg hat); clear ht hB hg hat HP4 HR4 HB4)
    go_upto_region 31 with (at_builtin; refine TR.append (enc := Value.int .u64) (fun _ => rfl) (w0 := w) w.heap.size rfl (.tmp 101) (.tmp 103) 62 55 (.int .u64 0) 8 rfl Try.underlying62 infoTU rfl (by decide) vt (ats first (es ++ ws)) next rfl rfl HQ5.out.2.rt HQ5.out.1.1 HQ5.out.1.1.size (by rw [ats_len]; have := hLN.out; omega) ?_; intro v9 w5 ht hB hg hat; have HQ6 := Aside0.mk (HQ5.out.1.rowT HQ5.out.2 ht (by rw [List.length_append]; exact Nat.succ_pos _) hg hat hB); have HB6 := Aside0.mk (KOp.growT HB5.out hg hat); clear ht hB hg hat HQ5 HB5)
    have HR := Aside0.mk (rows_app es ws life first (bytesOf r))
    have hne := Aside0.mk (show next = first + szs (es ++ ws) from (HK.out.1.nums (by have := HK.out; omega)).2.1)
    rcases HQ6.out.1.2.2.2 with ⟨he, hx, L1, M1, f1, kl, q1, q2, q3, q4, q5⟩ | ⟨he, L1, D, kd, q2, q3, q4, q5⟩
    · subst he hx
      have HL := Aside0.mk (And.intro kl (And.intro q1 (And.intro q2 (And.intro q3 (And.intro q4 q5)))))
      clear kl q1 q2 q3 q4 q5
      go_wp2_with fail
      refine (need_n n (by have := HN.out; omega) _).mono ?_
      rw [← HND.out.1]
      rintro e w6 ⟨rfl, hb⟩
      have HU := Aside0.mk (show KUp w w6 g p ring (c + 1) v8 v9 safe first (x + nd) life S' L1 M1 f1 es (ws ++ [(life, bytesOf r)]) from
        { l := HL.out.1.below hb
          r := by
            have h := HQ6.out.2.below hb
            rw [HL.out.2.2.2.1, HR.out.1, HR.out.2, str_bytesOf, ← hne.out]
            exact h
          fr := HL.out.2.2.2.2.1, rg := HL.out.2.2.2.2.2, sa := HK.out.1.sa, fi := HL.out.2.2.2.1.symm
          nx := by rw [HL.out.2.1, HND.out.2.1, ← HND.out.1]
          li := HL.out.2.2.1.symm })
      have HB7 := Aside0.mk (HB6.out.step (Dk.Kept.of_below hb (fun _ => False)) (fun _ q => q.elim) (fun k q => .inl q))
      clear hb HL HR HQ6 HB6
      go_wp2
      refine HQ.out _ _ ⟨safe, first, x + nd, mb, false, _, _, ⟨rfl, rfl, rfl, rfl, rfl, rfl, rfl, rfl, rfl, rfl, rfl, rfl, rfl, rfl, rfl⟩, HB7.out.b, .inl ⟨c + 1, S', L1, M1, f1, _, _, by have := HK.out; omega, HB7.out.s, HU.out, rfl⟩⟩
    · subst he
      have HL := Aside0.mk (And.intro kd (And.intro q2 (And.intro q3 (And.intro q4 q5))))
      clear kd q2 q3 q4 q5
      go_wp2_with fail
      refine (need_n n (by have := HN.out; omega) _).mono ?_
      rw [← HND.out.1]
      rintro e w6 ⟨rfl, hb⟩
      have HU := Aside0.mk (show KDn w w6 g ring (c + 1) v8 v9 safe first life mb false S' L1 D es (ws ++ [(life, bytesOf r)]) none from
        { d := HL.out.1.below hb
          r := by
            have h := (HQ6.out.2.below hb).sub (S' := S') (fun k q => .inl (.inl q))
            rw [HL.out.2.2.1, HR.out.1, HR.out.2, str_bytesOf, ← hne.out]
            exact h
          fr := HL.out.2.2.2.1, rg := HL.out.2.2.2.2, sa := HK.out.1.sa, fi := HL.out.2.2.1.symm
          li := HL.out.2.1.symm, ct := .inl ⟨rfl, rfl⟩ })
      have HB7 := Aside0.mk (HB6.out.step (Dk.Kept.of_below hb (fun _ => False)) (fun _ q => q.elim) (fun k q => .inl q))
      clear hb HL HR HQ6 HB6
      go_wp2
      refine HQ.out _ _ ⟨safe, first, next + nd, mb, false, _, _, ⟨rfl, rfl, rfl, rfl, rfl, rfl, rfl, rfl, rfl, rfl, rfl, rfl, rfl, rfl, rfl⟩, HB7.out.b, .inr ⟨c + 1, S', L1, D, _, _, _, by have := HK.out; omega, HB7.out.s, HU.out⟩⟩
  · refine (calls_of_args (args' := #[.pointer (some ⟨p, 0, none⟩), .slice (some ⟨w1.heap.size, 0, none⟩) (bytesOf r).length (grownCap w1 r.size 0 5)]) (by rw [bytesOf_length]) (HK2.out.append_full (by have := HK.out; omega) _ _ (bytesOf r) HC.out hcap (byt_str r) (by have := HND.out; have := HN.out; omega) (by have h1 := HND.out; rw [h1.2.1, ← h1.1, h1.2.2]; omega))).mono ?_
    rintro e w2 ⟨rfl, S', hS, hk2, hu⟩
    have HK3 := Aside0.mk hu
    have HB3 := Aside0.mk (HB2.out.step hk2 (fun _ q => q) hS)
    have hdec : decide ((ring : Int) - (next - first) < (nd : Int)) = true := decide_eq_true (by omega)
    clear hS hk2 hu HC HK2 HB2 hcap HK1
    go_wp2_with fail
    refine (need_n n (by have := HN.out; omega) _).mono ?_
    rw [← HND.out.1]
    rintro e w3 ⟨rfl, hb⟩
    have HK4 := Aside0.mk (HK3.out.below hb)
    have HB4 := Aside0.mk (HB3.out.step (Dk.Kept.of_below hb (fun _ => False)) (fun _ q => q.elim) (fun k q => .inl q))
    clear hb HK3 HB3
    go_wp2
    refine HQ.out _ _ ⟨safe, first, next, mb, false, _, _, ⟨rfl, rfl, rfl, rfl, rfl, rfl, rfl, rfl, rfl, rfl, rfl, rfl, rfl, rfl, rfl⟩, HB4.out.b, .inl ⟨c, S', L, M, f, _, _, by have := HK.out; omega, HB4.out.s, HK4.out, rfl⟩⟩
end
end WalKeeps
end Go.Proofs.Ytihmfccpgahmaaa.Wal

namespace Go.Proofs.Ytihmfccpgahmaaa.Wal
open Go Go.RowKit
open Go.Proofs.YtihmfccpgahmaaaW.PrintWords hiding Kept Kept.refl
open Go.Proofs.YtihmfccpgahmaaaW.PrintMore Go.Proofs.YtihmfccpgahmaaaW.PrintLast Go.Proofs.Ytihmfccpgahmaaa.Dk Go.Proofs.Ytihmfccpgahmaaa.Q Go.Proofs.Ytihmfccpgahmaaa.Str Go.Proofs.Ytihmfccpgahmaaa.Leb Go.Proofs.Ytihmfccpgahmaaa.Tl
set_option linter.unusedVariables false
set_option linter.unusedSimpArgs false
section
variable {w wr W : World} {p g ring c : Nat} {S : Nat → Prop} {L : LA} {M : DA} {f : Int} {es ws : List (Int × List Int)} {va vt : Value} {safe : Nat} {first next life : Int}
theorem KL.found {N : Nat} (h : KL w wr p g S N c L M f es ws) (hc : c ≤ 10000) : Calls Try.prog 39 #[.pointer (some ⟨p, 0, none⟩)] wr fun e w' =>
    ∃ v1 v2, e = .returned (.tuple #[v1, v2]) ∧ Kd.string.R 9 w' wr.heap.size (fun _ => True) v1 (strs (es ++ ws)) ∧ (Kd.int .u64).R 55 w' wr.heap.size (fun _ => True) v2 (ats L.start (es ++ ws)) ∧ Below wr.heap.size wr w' := by
  obtain ⟨k1, k2, _⟩ := h.ok hc
  have q := found_l h.G k1 k2
  have e : L.alls (fz M f) L.start = numb L.start (es ++ ws) := alls_ents (M := fz M f) h.I.C.nr ((h.I.ents (by omega)).weak h.I.C.o0)
  rw [e, numb_strs] at q
  exact q
theorem cells4 {n : Nat} {b1 b2 : Nat} {F1 F2 : Nat → Prop} {B1 B2 A1 A2 : Option Addr} {C1 C2 c1 c2 n2 base : Nat} {al al' : List ByteArray} {at_ at' : List Int} (h1 : Kd.string.R 9 W b1 F1 (.slice B1 n C1) al') (h2 : (Kd.int .u64).R 55 W b2 F2 (.slice B2 n C2) at') (h3 : TR Value.string 9 base W (.slice A1 n2 c1) al) (h4 : TR (Value.int .u64) 55 base W (.slice A2 n2 c2) at_)
    (l1 : al'.length = n) (l2 : at'.length = n) (j : Nat) (hj : j < n) (ea : al'[j]? = al[j]?) (et : at'[j]? = at_[j]?) :
    ∃ k1 k2 g1 o1 g2 o2 y z, B1 = some ⟨k1, 0, none⟩ ∧ B2 = some ⟨k2, 0, none⟩ ∧ A1 = some ⟨g1, o1, none⟩ ∧ A2 = some ⟨g2, o2, none⟩ ∧ W.cell? ⟨k1, j, none⟩ = some (.string y) ∧ W.cell? ⟨k2, j, none⟩ = some (.int .u64 z) ∧ W.cell? ⟨g1, o1 + j, none⟩ = some (.string y) ∧ W.cell? ⟨g2, o2 + j, none⟩ = some (.int .u64 z) ∧ al'[j]? = some y ∧ at'[j]? = some z := by
  obtain ⟨k1, q1, e1, _⟩ := Kd.R_form h1 (by omega)
  obtain ⟨k2, q2, e2, _⟩ := Kd.R_form h2 (by omega)
  injection e1 with e1 _ _
  injection e2 with e2 _ _
  subst e1 e2
  have r1 := (Kd.R_celln (enc := Value.string) (h1 := fun _ => rfl) ByteArray.empty h1 (j : Int) (by omega) (by omega)).1
  have r2 := (Kd.R_celln (enc := Value.int .u64) (h1 := fun _ => rfl) 0 h2 (j : Int) (by omega) (by omega)).1
  rw [Int.toNat_natCast] at r1 r2
  have ja : j < al.length := by
    rcases Nat.lt_or_ge j al.length with h | h
    · exact h
    · rw [List.getElem?_eq_none h, List.getElem?_eq_getElem (by omega)] at ea; cases ea
  have jt : j < at_.length := by
    rcases Nat.lt_or_ge j at_.length with h | h
    · exact h
    · rw [List.getElem?_eq_none h, List.getElem?_eq_getElem (by omega)] at et; cases et
  obtain ⟨g1, o1, q3, e3, r3⟩ := h3.cell j ja
  obtain ⟨g2, o2, q4, e4, r4⟩ := h4.cell j jt
  injection e3 with e3 _ _
  injection e4 with e4 _ _
  subst e3 e4
  have s1 : rdOf ByteArray.empty al' (j : Int) = al[j] := by
    unfold rdOf
    rw [Int.toNat_natCast, List.getD_eq_getElem?_getD, ea, List.getElem?_eq_getElem ja]
    rfl
  have s2 : rdOf 0 at' (j : Int) = at_[j] := by
    unfold rdOf
    rw [Int.toNat_natCast, List.getD_eq_getElem?_getD, et, List.getElem?_eq_getElem jt]
    rfl
  rw [s1] at r1
  rw [s2] at r2
  exact ⟨k1, k2, g1, o1, g2, o2, _, _, rfl, rfl, rfl, rfl, r1, r2, r3, r4, ea.trans (List.getElem?_eq_getElem ja), et.trans (List.getElem?_eq_getElem jt)⟩
end
namespace WalKeeps
section
variable {w wr W wx : World} {p g ring c k KB : Nat} {S S' T : Nat → Prop} {L L' : LA} {M M' D : DA} {f : Int} {es ws : List (Int × List Int)} {va vt v1 v2 v17 vo : Value} {safe : Nat} {first next life mb : Int} {cut : Bool} {A : Array Value} {o : WpV} {cells : Array Value}
set_option maxRecDepth 100000 in
set_option maxHeartbeats 8000000 in
theorem chk (HF : Fr A ring vo v17 g p k safe first next life mb false va vt) (HK : KUp w wx g p ring c va vt safe first next life S L M f es ws) (hc : c ≤ 4 + 3 * k) (hk : k < 40) (hr : ring ≤ 34)
    (Q : Exit → Act → World → Prop) (hQ : ∀ A' w', Fin w ring vo g k A' w' → Q (.exit 1) ⟨A', []⟩ w') (K : Act → World → Prop) (hK : ∀ a w, Code.wp Try.prog (cr (chkC Try.f17)) Q a w → K a w) : Code.wp Try.prog (cl (chkC Try.f17)) (Exit.then K Q) ⟨A, []⟩ wx := by
  replace hK : ∀ a w, Code.wp Try.prog (Code.seq _ _) Q a w → K a w := hK
  obtain ⟨A1, c1, A2, c2, n, rfl, rfl, hn, hn1, hn2⟩ := HK.r.form
  have hnl := Aside0.mk hn
  have hx : n ≤ 34 := by have := HK.len (by omega); omega
  show Code.wp Try.prog (Code.region _ _ _) (Exit.then K Q) ⟨A, []⟩ wx
  rw [HF.lit]
  have HK := Aside0.mk (And.intro HK (And.intro hc hk))
  have HQ := Aside0.mk hQ
  obtain ⟨f0, f1, f2, f3, f4, f5, f6⟩ := HK.out.1.nums (by have := HK.out; omega)
  have f7 := szs_nn (es ++ ws)
  have fx1 : first ≤ next := by omega
  have HF6 := Aside0.mk f6
  clear HF hQ hc hk hn f1 f6 f7
  go_wp2_with fail
  refine (HK.out.1.l.found (by have := HK.out; omega)).mono ?_
  rintro e w1 ⟨v1, v2, rfl, hr1, hr2, hb⟩
  have HK1 := Aside0.mk (HK.out.1.below hb)
  obtain ⟨B1, C1, e1, hC1, _⟩ := Kd.R_reads hr1
  obtain ⟨B2, C2, e2, hC2, _⟩ := Kd.R_reads hr2
  rw [strs_len, ← hnl.out] at e1
  rw [ats_len, ← hnl.out] at e2
  subst e1 e2
  have HR := Aside0.mk (And.intro hr1 hr2)
  clear hr1 hr2 hb hC1 hC2
  go_wp2_with fail
  refine (start_l HK1.out.l.G).mono ?_
  rw [← HK1.out.fi]
  rintro e w' ⟨rfl, hq⟩
  have hq2 := hq.symm
  clear hq
  subst hq2
  go_wp2_with fail
  refine (next_l HK1.out.l.G).mono ?_
  rw [← HK1.out.nx]
  rintro e w' ⟨rfl, hq⟩
  have hq2 := hq.symm
  clear hq
  subst hq2
  go_wp2_with fail
  refine (free_l HK1.out.l.G (HK1.out.l.ok (by have := HK.out; omega)).1).mono ?_
  rw [HF6.out]
  rintro e w2 ⟨rfl, kk, hq⟩
  have HD := Aside0.mk (show Below w1.heap.size w1 w2 by rw [hq]; exact below_drewN _ _)
  have HK2 := Aside0.mk (HK1.out.below HD.out)
  clear hq
  go_wp2_with fail
  refine (room_l HK2.out.l.G).mono ?_
  rw [HK2.out.rg]
  rintro e w' ⟨rfl, hq⟩
  have hq2 := hq.symm
  clear hq
  subst hq2
  go_wp2_with fail
  refine (life_l HK2.out.l.G).mono ?_
  rw [← HK2.out.li]
  rintro e w' ⟨rfl, hq⟩
  have hq2 := hq.symm
  clear hq
  subst hq2
  go_wp2_with fail
  go_loopw [241] (fun i wr => ∃ j : Nat, j ≤ n ∧ i = .int .i64 j ∧ Aside0 (Below w2.heap.size w2 wr)) (fun i _ => n - (intOf i).toNat)
  case atStart => exact ⟨0, Nat.zero_le _, rfl, ⟨Below.refl _ _⟩⟩
  case round =>
    obtain ⟨j, hj, rfl, hR⟩ := hrel
    by_cases hlt : j < n
    · obtain ⟨k1, k2, g1, o1, g2, o2, y, z, rfl, rfl, rfl, rfl, r1, r2, r3, r4, _, _⟩ := cells4 (Kd.R_below HR.out.1 (below_step HD.out hR.out)) (Kd.R_below HR.out.2 (below_step HD.out hR.out)) (HK2.out.r.below hR.out).ra (HK2.out.r.below hR.out).rt (by rw [strs_len, ← hnl.out]) (by rw [ats_len, ← hnl.out]) j hlt rfl rfl
      have hji : (j : Int) < (n : Int) := by omega
      go_upto_region 66 with fail
      go_quiet (fail)
      have HBQ2 := Aside0.mk (below_step hR.out (below_drewN wr nq))
      generalize wr.drewN nq = wq at HBQ2 ⊢
      clear r1 r2 r3 r4
      go_wp2
      go_roundw
      case rel => exact ⟨j + 1, hlt, by go_num, ⟨HBQ2.out⟩⟩
      case measure =>
        rw [show (j : Int) + 1 = ((j + 1 : Nat) : Int) from rfl]
        exact (show n - (j + 1) < n - j from Nat.sub_lt_sub_left hlt (Nat.lt_succ_self j))
    · have hjn : j = n := Nat.le_antisymm hj (Nat.le_of_not_lt hlt)
      subst hjn
      have HK3 := Aside0.mk (HK2.out.below hR.out)
      clear hlt hj hR
      go_wp2
      refine HQ.out _ _ ⟨p, safe, first, next, life, mb, _, _, _, ⟨rfl, rfl, rfl, rfl, rfl, rfl, rfl, rfl, rfl, rfl, rfl, rfl, rfl, rfl, rfl⟩, c, S, L, M, f, _, _, HK.out.2.1, HK3.out⟩
end
end WalKeeps
end Go.Proofs.Ytihmfccpgahmaaa.Wal

namespace Go.Proofs.Ytihmfccpgahmaaa.Wal
open Go Go.RowKit
open Go.Proofs.YtihmfccpgahmaaaW.PrintWords hiding Kept Kept.refl
open Go.Proofs.YtihmfccpgahmaaaW.PrintMore Go.Proofs.YtihmfccpgahmaaaW.PrintLast Go.Proofs.Ytihmfccpgahmaaa.Dk Go.Proofs.Ytihmfccpgahmaaa.Q Go.Proofs.Ytihmfccpgahmaaa.Str Go.Proofs.Ytihmfccpgahmaaa.Leb Go.Proofs.Ytihmfccpgahmaaa.Tl
set_option linter.unusedVariables false
set_option linter.unusedSimpArgs false
theorem need_d (n : Nat) (h : n ≤ 100000) (w : World) : Calls Try.prog 34 #[.int .i64 (n : Int)] w fun e w' => e = .returned (.int .i64 ((needN n : Nat) : Int)) ∧ ∃ m, w' = w.drewN m := by
  refine (dockmasterlaw05_need.calls 300 n (needN n : Nat) w ?_).mono ?_
  · (unfold dockmasterlaw05_need.f; rw [need_l0 220 300 n 1 (by omega) (by omega) (by omega) (by omega) (by omega), need_N]; congr 1; omega)
  · rintro e w' ⟨he, m, hm⟩
    exact ⟨he, m, hm⟩
section
variable {w wr W : World} {S : Nat → Prop} {A1 A2 : Option Addr} {n c1 c2 : Nat} {al : List ByteArray} {at_ : List Int}
theorem KR.drop (h : KR w wr S (.slice A1 n c1) (.slice A2 n c2) al at_) (j : Nat) (hj : j ≤ al.length) (hj2 : j ≤ at_.length) : KR w wr S (.slice (if c1 = j then A1 else A1.map (·.add j)) (n - j) (c1 - j)) (.slice (if c2 = j then A2 else A2.map (·.add j)) (n - j) (c2 - j)) (al.drop j) (at_.drop j) :=
  ⟨h.ra.drop j hj, h.rt.drop j hj2, fun k hk => h.na k (blk_drop (n := n) hk), fun k hk => ⟨(h.nt k (blk_drop (n := n) hk)).1, (h.nt k (blk_drop (n := n) hk)).2.1, fun q => (h.nt k (blk_drop (n := n) hk)).2.2 (blk_drop (n := n) q)⟩⟩
theorem blk_same {A : Option Addr} {n n' c c' k : Nat} (h : blkOf (.slice A n c) = some k) : blkOf (.slice A n' c') = some k := by cases A <;> exact h
theorem KR.take (h : KR w wr S (.slice A1 n c1) (.slice A2 n c2) al at_) (m : Nat) (hm : m ≤ al.length) (hm2 : m ≤ at_.length) : KR w wr S (.slice A1 m m) (.slice A2 m m) (al.take m) (at_.take m) :=
  ⟨h.ra.take m hm, h.rt.take m hm2, fun k hk => h.na k (blk_same hk), fun k hk => ⟨(h.nt k (blk_same hk)).1, (h.nt k (blk_same hk)).2.1, fun q => (h.nt k (blk_same hk)).2.2 (blk_same q)⟩⟩
end
namespace WalKeeps
section
variable {w wr W wx : World} {p g ring c k KB : Nat} {S S' T : Nat → Prop} {L L' : LA} {M M' D : DA} {f : Int} {es ws X : List (Int × List Int)} {va vt v1 v2 v17 vo : Value} {safe : Nat} {first next life mb : Int} {cut : Bool} {A : Array Value} {o : WpV} {cells : Array Value}
set_option maxRecDepth 100000 in
set_option maxHeartbeats 8000000 in
theorem pow_tail (HF : Fr A ring vo v17 g p k safe first next life mb cut va vt) (HL : KL w wx p g S (ring + 5) c L M 0 es []) (x1 : L.life = life) (x2 : L.fr = 2) (x3 : L.ring = ring) (x4 : L.start = first) (HR : KR w wx (fun k => S k ∨ k = p) va vt (strs X) (ats first X)) (hX : es = X.take es.length) (hX2 : es.length ≤ X.length) (hsf : safe ≤ es.length) (hc : c ≤ 4 + 3 * k) (hk : k < 40) (hr : ring ≤ 34)
    (Q : Exit → Act → World → Prop) (hQ : ∀ A' w', Fin w ring vo g k A' w' → Q .normal ⟨A', []⟩ w') (K : Act → World → Prop) (hK : ∀ a w, Code.wp Try.prog (cr (tailC Try.f17)) Q a w → K a w) : Code.wp Try.prog (cl (tailC Try.f17)) (Exit.then K Q) ⟨A, []⟩ wx := by
  replace hK : ∀ a w, Code.wp Try.prog (Code.seq _ _) Q a w → K a w := hK
  show Code.wp Try.prog (Code.region _ _ _) (Exit.then K Q) ⟨A, []⟩ wx
  obtain ⟨A1, c1, A2, c2, n, rfl, rfl, hn, hn1, hn2⟩ := HR.form
  obtain ⟨m, hm⟩ : ∃ m, m = es.length := ⟨_, rfl⟩
  rw [← hm] at hX hX2 hsf
  rw [← hn] at hX2
  rw [HF.lit]
  have e1 := HL.I.next_eq (by omega)
  have e2 := HL.I.forced_eq
  rw [List.append_nil] at e1
  have e3 := HL.I.C.nr
  have e4 := HL.I.C.s0
  have e5 := HL.I.C.x1
  have e6 := len_szs es
  have hm34 : m ≤ 34 := by omega
  have HE := Aside0.mk (show L.next = first + szs es ∧ L.forced = L.next ∧ 0 ≤ first ∧ L.next < 1000000 ∧ szs es ≤ 34 from ⟨by omega, by omega, by omega, by omega, by omega⟩)
  have HM := Aside0.mk (And.intro hm (And.intro hn (And.intro hX (And.intro hc hk))))
  have HL := Aside0.mk (And.intro HL (And.intro x1 (And.intro x2 (And.intro x3 x4))))
  have HR := Aside0.mk HR
  have HQ := Aside0.mk hQ
  clear HF hQ x1 x2 x3 x4 hm hn hX hc hk e1 e2 e3 e4 e5 e6 hr
  go_wp2_with fail
  refine (HL.out.1.found (by have := HM.out; omega)).mono ?_
  rintro e w1 ⟨v1, v2, rfl, hr1, hr2, hb⟩
  rw [List.append_nil] at hr1 hr2
  rw [HL.out.2.2.2.2] at hr2
  have HL1 := Aside0.mk (HL.out.1.below hb)
  have HR1 := Aside0.mk (HR.out.below hb)
  obtain ⟨B1, C1, e1, hC1, _⟩ := Kd.R_reads hr1
  obtain ⟨B2, C2, e2, hC2, _⟩ := Kd.R_reads hr2
  rw [strs_len, ← HM.out.1] at e1
  rw [ats_len, ← HM.out.1] at e2
  subst e1 e2
  have HG := Aside0.mk (And.intro hr1 hr2)
  clear hr1 hr2 hb hC1 hC2 HR
  have HPR := Aside0.mk (show ∀ j, j < m → (strs es)[j]? = (strs X)[j]? ∧ (ats first es)[j]? = (ats first X)[j]? from fun j hj => by
    have q1 : strs es = (strs X).take m := by rw [← strs_take, ← HM.out.2.2.1]
    have q2 : ats first es = (ats first X).take m := by rw [← ats_take, ← HM.out.2.2.1]
    rw [q1, q2, List.getElem?_take_of_lt hj, List.getElem?_take_of_lt hj]
    exact ⟨rfl, rfl⟩)
  go_wp2_with fail
  go_loopw [337] (fun i wr => ∃ j : Nat, j ≤ m ∧ i = .int .i64 j ∧ Aside0 (Below w1.heap.size w1 wr)) (fun i _ => m - (intOf i).toNat)
  case atStart => exact ⟨0, Nat.zero_le _, rfl, ⟨Below.refl _ _⟩⟩
  case round =>
    obtain ⟨j, hj, rfl, hR⟩ := hrel
    by_cases hlt : j < m
    · obtain ⟨k1, k2, g1, o1, g2, o2, y, z, rfl, rfl, rfl, rfl, r1, r2, r3, r4, _, _⟩ := cells4 (Kd.R_below HG.out.1 hR.out) (Kd.R_below HG.out.2 hR.out) (HR1.out.below hR.out).ra (HR1.out.below hR.out).rt (by rw [strs_len, ← HM.out.1]) (by rw [ats_len, ← HM.out.1]) j hlt (HPR.out j hlt).1 (HPR.out j hlt).2
      have hji : (j : Int) < (m : Int) := by omega
      have hjn : (j : Int) < (n : Int) := by omega
      go_upto_region 90 with fail
      go_quiet (fail)
      have HBQ2 := Aside0.mk (below_step hR.out (below_drewN wr nq))
      generalize wr.drewN nq = wq at HBQ2 ⊢
      clear r1 r2 r3 r4
      go_wp2
      go_roundw
      case rel => exact ⟨j + 1, hlt, by go_num, ⟨HBQ2.out⟩⟩
      case measure =>
        rw [show (j : Int) + 1 = ((j + 1 : Nat) : Int) from rfl]
        exact (show m - (j + 1) < m - j from Nat.sub_lt_sub_left hlt (Nat.lt_succ_self j))
    · have hjn : j = m := Nat.le_antisymm hj (Nat.le_of_not_lt hlt)
      subst hjn
      clear hlt hj
      have HL2 := Aside0.mk (HL1.out.below hR.out)
      have HR2 := Aside0.mk (HR1.out.below hR.out)
      have HG2 := Aside0.mk (And.intro (Kd.R_below HG.out.1 hR.out) (Kd.R_below HG.out.2 hR.out))
      clear hR HL1 HR1 HG
      go_upto_region 97 with fail
      have HU := Aside0.mk (show KUp w wr g p ring c (.slice A1 j j) (.slice A2 j j) j first L.next life S L M 0 es [] from
        { l := HL2.out
          r := by
            rw [List.append_nil, HL.out.2.2.2.2, HM.out.2.2.1, strs_take, ats_take]
            exact HR2.out.take j (by rw [strs_len]; have := HM.out; omega) (by rw [ats_len]; have := HM.out; omega)
          fr := HL.out.2.2.1, rg := HL.out.2.2.2.1, sa := HM.out.1, fi := HL.out.2.2.2.2.symm, nx := rfl, li := HL.out.2.1.symm })
      rcases Nat.eq_zero_or_pos j with h0 | h0
      · subst h0
        have hnx := Aside0.mk (show L.next = first by
          have h1 := HE.out.1
          rw [List.eq_nil_of_length_eq_zero HM.out.1.symm] at h1
          have h2 : szs [] = 0 := rfl
          omega)
        go_wp2_with fail
        refine (next_l HU.out.l.G).mono ?_
        rw [hnx.out]
        rintro e w' ⟨rfl, hq⟩
        have hq2 := hq.symm
        clear hq
        subst hq2
        go_wp2_with fail
        refine (safe_l HU.out.l.G).mono ?_
        rw [HE.out.2.1, hnx.out]
        rintro e w' ⟨rfl, hq⟩
        have hq2 := hq.symm
        clear hq
        subst hq2
        go_wp2
        refine HQ.out _ _ ⟨p, 0, first, first, life, mb, _, _, _, ⟨rfl, rfl, rfl, rfl, rfl, rfl, rfl, rfl, rfl, rfl, rfl, rfl, rfl, rfl, rfl⟩, c, S, L, M, 0, _, _, HM.out.2.2.2.1, by have := HU.out; rw [hnx.out] at this; exact this⟩
      · obtain ⟨jj, rfl⟩ : ∃ jj, j = jj + 1 := ⟨j - 1, by omega⟩
        obtain ⟨k1, k2, g1, o1, g2, o2, y, z, rfl, rfl, rfl, rfl, r1, r2, r3, r4, hy, hz⟩ := cells4 HG2.out.1 HG2.out.2 HR2.out.ra HR2.out.rt (by rw [strs_len, ← HM.out.1]) (by rw [ats_len, ← HM.out.1]) jj (Nat.lt_succ_self jj) (HPR.out jj (Nat.lt_succ_self jj)).1 (HPR.out jj (Nat.lt_succ_self jj)).2
        obtain ⟨z2, l, q1, q2, q3, _⟩ := last_end es first (fun h => by have := HM.out.1; rw [h] at this; cases this)
        rw [← HM.out.1, Nat.add_sub_cancel] at q1 q2
        rw [hz] at q1
        rw [hy] at q2
        injection q1 with q1
        injection q2 with q2
        have hys : y.size = l.length := by rw [q2, size_str]
        rw [← q1, ← hys] at q3
        have hnd : needN y.size ≤ 34 := by
          have h1 := HE.out
          have h2 : 0 ≤ szs (es.take jj) := szs_nn _
          have h3 : szs es = szs (es.take jj) + szs (es.drop jj) := by rw [← szs_app, List.take_append_drop]
          have h4 := ats_get es first jj (by have := HM.out.1; omega)
          rw [hz] at h4
          injection h4 with h4
          omega
        have hsz : y.size ≤ 100000 := by unfold needN at hnd; omega
        have hnx := Aside0.mk (show L.next = z + needN y.size by rw [q3]; exact HE.out.1)
        have hz0 : 0 ≤ z := by
          have h4 := ats_get es first jj (by have := HM.out.1; omega)
          rw [hz] at h4
          injection h4 with h4
          have h2 : 0 ≤ szs (es.take jj) := szs_nn _
          have h1 := HE.out
          omega
        have hzb : z + needN y.size < 1000000 := by have := hnx.out; have := HE.out; omega
        clear q1 q2 q3 hys hy hz
        have HSZ := Aside0.mk hsz
        generalize hnn : needN y.size = nd at hnx hzb hnd
        have HNN := Aside0.mk hnn
        clear hnn hsz
        go_upto_region 98 with fail
        have hcall := need_d y.size HSZ.out
        rw [HNN.out] at hcall
        go_quiet (exact Calls.quiet_of (hcall _))
        have HU2 := Aside0.mk (HU.out.below (below_drewN wr nq))
        generalize wr.drewN nq = wq at HU2 ⊢
        clear r1 r2 r3 r4 hcall HU HG2 HR2
        go_wp2_with fail
        refine (next_l HU2.out.l.G).mono ?_
        rw [hnx.out]
        rintro e w' ⟨rfl, hq⟩
        have hq2 := hq.symm
        clear hq
        subst hq2
        go_wp2_with fail
        refine (safe_l HU2.out.l.G).mono ?_
        rw [HE.out.2.1, hnx.out]
        rintro e w' ⟨rfl, hq⟩
        have hq2 := hq.symm
        clear hq
        subst hq2
        go_wp2
        refine HQ.out _ _ ⟨p, jj + 1, first, z + nd, life, mb, _, _, _, ⟨rfl, rfl, rfl, rfl, rfl, rfl, rfl, rfl, rfl, rfl, rfl, rfl, rfl, rfl, rfl⟩, c, S, L, M, 0, _, _, HM.out.2.2.2.1, by have := HU2.out; rw [hnx.out] at this; exact this⟩
end
end WalKeeps
end Go.Proofs.Ytihmfccpgahmaaa.Wal

namespace Go.Proofs.Ytihmfccpgahmaaa.Wal
open Go Go.RowKit
open Go.Proofs.YtihmfccpgahmaaaW.PrintWords hiding Kept Kept.refl
open Go.Proofs.YtihmfccpgahmaaaW.PrintMore Go.Proofs.YtihmfccpgahmaaaW.PrintLast Go.Proofs.Ytihmfccpgahmaaa.Dk Go.Proofs.Ytihmfccpgahmaaa.Q Go.Proofs.Ytihmfccpgahmaaa.Str Go.Proofs.Ytihmfccpgahmaaa.Leb Go.Proofs.Ytihmfccpgahmaaa.Tl
set_option linter.unusedVariables false
set_option linter.unusedSimpArgs false
theorem KL.pd {w wr : World} {p g N c : Nat} {S : Nat → Prop} {L : LA} {M : DA} {f : Int} {es ws : List (Int × List Int)} (h : KL w wr p g S N c L M f es ws) : ∀ k, (S k ∨ k = p) → k < wr.heap.size := fun k hk => hk.elim (fun q => (h.G.D.lt k q).2) (fun e => by rw [e]; exact h.G.lt)
/-- The law's row has a first entry. -/
theorem KR.first {w wr : World} {S : Nat → Prop} {va : Value} {A2 : Option Addr} {n c2 : Nat} {al : List ByteArray} {at_ : List Int} (h : KR w wr S va (.slice A2 n c2) al at_) (hn : 0 < at_.length) : ∃ g2 o2 z, A2 = some ⟨g2, o2, none⟩ ∧ wr.cell? ⟨g2, o2, none⟩ = some (.int .u64 z) ∧ at_[0]? = some z := by
  obtain ⟨g2, o2, c, e, hc⟩ := h.rt.cell 0 hn
  injection e with e _ _
  subst e
  exact ⟨g2, o2, _, rfl, hc, List.getElem?_eq_getElem hn⟩
def slen : Value → Nat
  | .slice _ n _ => n
  | _ => 0
namespace WalKeeps
section
variable {w wr W wx : World} {p g ring c k KB : Nat} {S S' T : Nat → Prop} {L L' : LA} {M M' D : DA} {f : Int} {es ws X : List (Int × List Int)} {va vt v1 v2 v17 vo : Value} {safe : Nat} {first next life mb : Int} {cut : Bool} {A : Array Value} {o : WpV} {cells : Array Value} {ct : Option (Int × List (Int × List Int))} {kA : Option Addr} {kc : Nat}
set_option maxRecDepth 100000 in
set_option maxHeartbeats 8000000 in
theorem pow (HF : Fr A ring vo (.pointer (some ⟨KB, 0, none⟩)) g p k safe first next life mb cut va vt) (HP : KPw w wx g ring c va vt safe first life mb cut S L D es ws ct) (hc : c ≤ 2 + 3 * k) (hk : k < 40) (hr : ring ≤ 34)
    (HB : wx.heap[KB]? = some (.cells #[.int .i64 o.k, .int .i64 o.n, .slice kA o.keep.length kc, .int .i64 o.tear] 79 (0, 0))) (hS : ¬ S KB) (hkC : Kd.C Kd.bool w kA o.keep.length o.keep) (hkl : o.keep.length ≤ 100)
    (Q : Exit → Act → World → Prop) (hQ : ∀ A' w', Fin w ring vo g k A' w' → Q .normal ⟨A', []⟩ w') (K : Act → World → Prop) (hK : ∀ a w, Code.wp Try.prog (cr (powC Try.f17)) Q a w → K a w) : Code.wp Try.prog (cl (powC Try.f17)) (Exit.then K Q) ⟨A, []⟩ wx := by
  replace hK : ∀ a w, Code.wp Try.prog (Code.seq _ _) Q a w → K a w := hK
  obtain ⟨A1, c1, A2, c2, n, rfl, rfl, hn, hn1, hn2⟩ := HP.r.form
  show Code.wp Try.prog (Code.region _ _ _) (Exit.then K Q) ⟨A, []⟩ wx
  rw [HF.lit]
  have HM := Aside0.mk (And.intro hn (And.intro hc (And.intro hk (And.intro hr (And.intro hkC hkl)))))
  have HP := Aside0.mk HP
  have HB := Aside0.mk (And.intro HB hS)
  have HQ := Aside0.mk hQ
  clear HF hQ hn hc hk hkC hS hkl
  go_wp2_with fail
  refine (st_off HP.out.st).mono ?_
  rintro e w1 ⟨rfl, hst, hk1⟩
  have HD1 := Aside0.mk hst
  have HR1 := Aside0.mk (HP.out.r.step hk1 (fun _ q => q) (fun k q => .inl q))
  have HB1 := Aside0.mk ((hk1.block KB (blk_lt HB.out.1) HB.out.2).trans HB.out.1)
  clear hst hk1
  have y2 : w1.cell? ⟨KB, 2, none⟩ = some (.slice kA o.keep.length kc) := (blk_cell HB1.out 2).trans rfl
  have y3 : w1.cell? ⟨KB, 3, none⟩ = some (.int .i64 o.tear) := (blk_cell HB1.out 3).trans rfl
  go_wp2_with fail
  refine (st_on HD1.out kA kc o.keep (fun W' hk => Kd.C_below HM.out.2.2.2.2.1 (kept_below hk HD1.out.B (fun k q => (HD1.out.lt k q).1))) (by have := HM.out.2.2.2.2.2; omega) o.tear (by have := HP.out.wl; exact Nat.le_trans this (by decide))).mono ?_
  rintro e w2 ⟨rfl, hst, hk1⟩
  have HD2 := Aside0.mk hst
  have HR2 := Aside0.mk (HR1.out.step hk1 (fun _ q => q) (fun k q => .inl q))
  clear hst hk1 y2 y3 HR1 HD1 HB1
  go_wp2_with fail
  refine (k_open HD2.out HP.out.F HP.out.fr HP.out.rg (by have := HM.out; omega)).mono ?_
  rintro e w3 ⟨p', S', L', M', es', rfl, kl, x1, x2, x3, hcase, hp', hS', hk4⟩
  have HR3 := Aside0.mk (HR2.out.step (S' := fun k => S' k ∨ k = p') hk4 (fun _ q => q) (fun k q => q.elim (hS' k) (fun e => .inr (by rw [e]; exact hp'))))
  rw [← HP.out.li] at x1
  have HL := Aside0.mk (And.intro kl (And.intro x1 (And.intro x2 x3)))
  have HC := Aside0.mk hcase
  clear kl x1 x2 x3 hcase hp' hS' hk4 HR2 HD2 HB
  go_wp2_with fail
  refine (life_l HL.out.1.G).mono ?_
  rw [HL.out.2.1]
  rintro e w' ⟨rfl, hq⟩
  have hq2 := hq.symm
  clear hq
  subst hq2
  have hdl : decide (life + 1 ≤ life) = false := decide_eq_false (by omega)
  go_wp2_with fail
  refine (life_l HL.out.1.G).mono ?_
  rw [HL.out.2.1]
  rintro e w' ⟨rfl, hq⟩
  have hq2 := hq.symm
  clear hq
  subst hq2
  clear hdl
  go_wp2_with fail
  refine (start_l HL.out.1.G).mono ?_
  rintro e w' ⟨rfl, hq⟩
  have hq2 := hq.symm
  clear hq
  subst hq2
  by_cases hs : L'.start = first
  · have HX := Aside0.mk (show es' = (es ++ ws).take es'.length ∧ es'.length ≤ (es ++ ws).length ∧ safe ≤ es'.length from by
      rcases HC.out with ⟨_, t1, t2, hw, he⟩ | ⟨lsn, b, hct, hl, he⟩
      · subst hw he
        rw [HP.out.sa]
        refine ⟨?_, ?_, ?_⟩
        · rw [← List.append_assoc, List.take_left]
        · simp only [List.length_append]; omega
        · rw [List.length_append]; omega
      · rcases HP.out.ct with ⟨h0, _⟩ | ⟨a, b2, h0, _, hab, hm⟩
        · rw [h0] at hct; cases hct
        · rw [h0] at hct
          injection hct with hct
          injection hct with h1 h2
          subst h1 h2 he
          have ha : a = [] := by
            have h3 := len_szs a
            exact List.eq_nil_of_length_eq_zero (by omega)
          subst ha
          rw [List.nil_append] at hab
          rw [hab, List.take_length]
          refine ⟨rfl, Nat.le_refl _, ?_⟩
          rw [HP.out.sa, ← hab, List.length_append]
          omega)
    have hsb : (L'.start == first) = true := beq_iff_eq.2 hs
    have hsb2 : (L'.start != first) = false := by simp [hs]
    have HS := Aside0.mk hs
    clear hs
    go_upto_region 83 with fail
    refine pow_tail (c := c + 2) (vo := vo) (p := p') (es := es') (X := es ++ ws) (va := .slice A1 n c1) (vt := .slice A2 n c2) ⟨rfl, rfl, rfl, rfl, rfl, rfl, rfl, rfl, rfl, rfl, rfl, rfl, rfl, rfl, rfl⟩ HL.out.1 HL.out.2.1 HL.out.2.2.1 HL.out.2.2.2 HS.out (by have := HR3.out; rw [← HP.out.fi] at this; exact this) HX.out.1 HX.out.2.1 HX.out.2.2 (by have := HM.out; omega) HM.out.2.2.1 HM.out.2.2.2.1 _ ?_ _ (by assumption)
    intro A' w' h
    go_wp2
    exact HQ.out _ _ h
  · have HX := Aside0.mk (show ∃ a b, es ++ ws = a ++ b ∧ L'.start = first + szs a ∧ es' = b ∧ mb = L'.start ∧ cut = true from by
      rcases HC.out with ⟨h0, _⟩ | ⟨lsn, b, hct, hl, he⟩
      · exact absurd (h0.trans HP.out.fi.symm) hs
      · rcases HP.out.ct with ⟨h0, _⟩ | ⟨a, b2, h0, h1, hab, hm⟩
        · rw [h0] at hct; cases hct
        · rw [h0] at hct
          injection hct with hct
          injection hct with h2 h3
          subst h2 h3
          exact ⟨a, _, hab, hl.trans hm, he, hl.symm, h1⟩)
    obtain ⟨a, b, hab, hma, heb, hmb, hcut⟩ := HX.out
    subst heb hmb hcut
    obtain ⟨hb1, hb2, hb3, hb4⟩ := found_cut hab hma
    have hlen : (es ++ ws).length = a.length + es'.length := by rw [hab, List.length_append]
    have HA := Aside0.mk (And.intro hb1 (And.intro hb2 (And.intro hb3 (And.intro hb4 hlen))))
    have hna : a.length ≤ n := by have := HM.out.1; omega
    have hnb : n - a.length = es'.length := by have := HM.out.1; omega
    have HNB := Aside0.mk hnb
    have hsb : (L'.start == first) = false := beq_eq_false_iff_ne.2 hs
    have hsb2 : (L'.start != first) = true := by simp [hs]
    clear hs hab hma hb1 hb2 hb3 hb4 hlen hnb HX
    go_wp2_with fail
    refine (start_l HL.out.1.G).mono ?_
    rintro e w' ⟨rfl, hq⟩
    have hq2 := hq.symm
    clear hq
    subst hq2
    go_wp2_with fail
    go_loopw [8, 9] (fun v8 v9 wr => ∃ (j q : Nat) (A3 A4 : Option Addr) (c3 c4 : Nat), q + j = n ∧ j ≤ a.length ∧ v8 = .slice A3 q c3 ∧ v9 = .slice A4 q c4 ∧ q ≤ c3 ∧ q ≤ c4 ∧ Aside0 (Below w3.heap.size w3 wr ∧ KR w wr (fun k => S' k ∨ k = p') (.slice A3 q c3) (.slice A4 q c4) ((strs (es ++ ws)).drop j) ((ats first (es ++ ws)).drop j))) (fun v8 _ _ => slen v8)
    case atStart => exact ⟨0, n, _, _, _, _, rfl, Nat.zero_le _, rfl, rfl, hn1, hn2, ⟨Below.refl _ _, by have := HR3.out; rw [← HP.out.fi] at this; exact this⟩⟩
    case round =>
      obtain ⟨j, q, A3, A4, c3, c4, hqj, hj, rfl, rfl, h3, h4, hR⟩ := hrel
      by_cases hlt : j < a.length
      · obtain ⟨q, rfl⟩ : ∃ q', q = q' + 1 := ⟨q - 1, by omega⟩
        have hl1 : ((strs (es ++ ws)).drop j).length = q + 1 := by rw [List.length_drop, strs_len, ← HM.out.1]; omega
        have hl2 : ((ats first (es ++ ws)).drop j).length = q + 1 := by rw [List.length_drop, ats_len, ← HM.out.1]; omega
        obtain ⟨g2, o2, z, rfl, r1, hz⟩ := hR.out.2.first (by rw [hl2]; exact Nat.succ_pos _)
        have hzl : decide (z < L'.start) = true := by
          obtain ⟨x, h1, h2⟩ := HA.out.2.2.1 j hlt
          rw [List.getElem?_drop, Nat.add_zero, h1] at hz
          injection hz with hz
          rw [← hz]
          exact decide_eq_true h2
        have hd := hR.out.2.drop 1 (by omega) (by omega)
        rw [List.drop_drop, List.drop_drop, Nat.add_sub_cancel] at hd
        have HLT := Aside0.mk hlt
        have hqj2 := Aside0.mk (show q + (j + 1) = n by omega)
        have h3b : 1 ≤ c3 := by omega
        have h4b : 1 ≤ c4 := by omega
        clear hl1 hl2 hz hlt
        by_cases q1 : c3 = 1
        all_goals by_cases q2 : c4 = 1
        all_goals simp only [q1, q2, if_true, if_false, Nat.sub_self] at hd
        all_goals have HD := Aside0.mk hd
        all_goals clear hd
        all_goals go_wp2
        all_goals go_roundw
        all_goals first | exact ⟨j + 1, q, _, _, _, _, hqj2.out, HLT.out, rfl, rfl, by omega, by omega, ⟨hR.out.1, HD.out⟩⟩ | exact Nat.lt_succ_self q
      · have hja : j = a.length := Nat.le_antisymm hj (Nat.le_of_not_lt hlt)
        subst hja
        have HL2 := Aside0.mk (HL.out.1.below hR.out.1)
        have HRX := Aside0.mk (show KR w wr (fun k => S' k ∨ k = p') (.slice A3 q c3) (.slice A4 q c4) (strs es') (ats L'.start es') by rw [HA.out.1, HA.out.2.1]; exact hR.out.2)
        have hqe : q ≤ es'.length := by have := HNB.out; omega
        clear hlt hj
        rcases Nat.eq_zero_or_pos q with h0 | h0
        · subst h0
          go_upto_region 83 with fail
          refine pow_tail (c := c + 2) (vo := vo) (p := p') (es := es') (X := es') (va := .slice A3 0 c3) (vt := .slice A4 0 c4) ⟨rfl, rfl, rfl, rfl, rfl, rfl, rfl, rfl, rfl, rfl, rfl, rfl, rfl, rfl, rfl⟩ HL2.out HL.out.2.1 HL.out.2.2.1 HL.out.2.2.2 rfl HRX.out (by rw [List.take_length]) (Nat.le_refl _) (by omega) (by have := HM.out; omega) HM.out.2.2.1 HM.out.2.2.2.1 _ ?_ _ (by assumption)
          intro A' w' h
          go_wp2
          exact HQ.out _ _ h
        · obtain ⟨g2, o2, z, rfl, r1, hz⟩ := hR.out.2.first (by rw [List.length_drop, ats_len, ← HM.out.1]; omega)
          have hzl : decide (z < L'.start) = false := by
            rw [List.getElem?_drop, Nat.add_zero, HA.out.2.2.2.1 (by rw [← HM.out.1]; omega)] at hz
            injection hz with hz
            rw [← hz]
            exact decide_eq_false (by omega)
          clear hz
          go_upto_region 83 with fail
          refine pow_tail (c := c + 2) (vo := vo) (p := p') (es := es') (X := es') (va := .slice A3 q c3) (vt := .slice (some ⟨g2, o2, none⟩) q c4) ⟨rfl, rfl, rfl, rfl, rfl, rfl, rfl, rfl, rfl, rfl, rfl, rfl, rfl, rfl, rfl⟩ HL2.out HL.out.2.1 HL.out.2.2.1 HL.out.2.2.2 rfl HRX.out (by rw [List.take_length]) (Nat.le_refl _) (by omega) (by have := HM.out; omega) HM.out.2.2.1 HM.out.2.2.2.1 _ ?_ _ (by assumption)
          intro A' w' h
          go_wp2
          exact HQ.out _ _ h
end
end WalKeeps
end Go.Proofs.Ytihmfccpgahmaaa.Wal

namespace Go.Proofs.Ytihmfccpgahmaaa.Wal
open Go Go.RowKit
open Go.Proofs.YtihmfccpgahmaaaW.PrintWords hiding Kept Kept.refl
open Go.Proofs.YtihmfccpgahmaaaW.PrintMore Go.Proofs.YtihmfccpgahmaaaW.PrintLast Go.Proofs.Ytihmfccpgahmaaa.Dk Go.Proofs.Ytihmfccpgahmaaa.Q Go.Proofs.Ytihmfccpgahmaaa.Str Go.Proofs.Ytihmfccpgahmaaa.Leb Go.Proofs.Ytihmfccpgahmaaa.Tl
set_option linter.unusedVariables false
set_option linter.unusedSimpArgs false
theorem ku_start {w w3 : World} {g p ring : Nat} {S : Nat → Prop} {L : LA} {M : DA} (hG : Lg w w3 p g S L M) (hI : LI (ring + 5) 1 L M [] []) (hx : L.life = 1 ∧ L.start = 0 ∧ L.next = 0 ∧ L.fr = 2 ∧ L.ring = ring) :
    KUp w ((w3.alloc (.cells #[] 9)).alloc (.cells #[] 55)) g p ring 1 (.slice (some ⟨w3.heap.size, 0, none⟩) 0 0) (.slice (some ⟨w3.heap.size + 1, 0, none⟩) 0 0) 0 0 0 1 S L M 0 [] [] := by
  have b1 : Below w3.heap.size w3 (w3.alloc (.cells #[] 9)) := below_alloc (Below.refl _ _) _
  have b2 := below_alloc (Below.refl (w3.alloc (.cells #[] 9)).heap.size (w3.alloc (.cells #[] 9))) (.cells #[] 55)
  have hs1 : (w3.alloc (.cells #[] 9)).heap.size = w3.heap.size + 1 := World.size_alloc _ _
  have hs2 : ((w3.alloc (.cells #[] 9)).alloc (.cells #[] 55)).heap.size = w3.heap.size + 1 + 1 := by rw [World.size_alloc, hs1]
  have hB := hG.D.B.size
  exact {
    l := ⟨by rw [fz_zero' hI.g.f]; exact (hG.below b1).below b2, hI, Int.le_refl _⟩
    fr := hx.2.2.2.1, rg := hx.2.2.2.2
    r := {
      ra := ⟨_, 0, rfl, Nat.le_refl _, fun h => absurd h (Nat.lt_irrefl _)⟩
      rt := ⟨_, 0, rfl, Nat.le_refl _, fun h => absurd h (Nat.lt_irrefl _)⟩
      na := fun k hk => by
        injection hk with hk
        have hk2 : w3.heap.size = k := hk
        exact ⟨fun h => h.elim (fun h => by have := (hG.D.lt k h).2; omega) (fun h => by have := hG.lt; omega), by rw [hs2]; omega⟩
      nt := fun k hk => by
        injection hk with hk
        have hk2 : w3.heap.size + 1 = k := hk
        refine ⟨fun h => h.elim (fun h => by have := (hG.D.lt k h).2; omega) (fun h => by have := hG.lt; omega), by rw [hs2]; omega, fun h => ?_⟩
        injection h with h
        have h2 : w3.heap.size = k := h
        omega }
    sa := rfl, fi := hx.2.1.symm, nx := hx.2.2.1.symm, li := hx.1.symm }
namespace WalKeeps
section
variable {w wr W wx : World} {p g ring c k KB : Nat} {S S' T : Nat → Prop} {L L' : LA} {M M' D : DA} {f : Int} {es ws X : List (Int × List Int)} {va vt v1 v2 v17 vo : Value} {safe : Nat} {first next life mb : Int} {cut : Bool} {A : Array Value} {o : WpV} {cells : Array Value} {ct : Option (Int × List (Int × List Int))} {kA : Option Addr} {kc : Nat}
/-- The switch. -/
theorem sw (HF : Fr A ring vo (.pointer (some ⟨KB, 0, none⟩)) g p k safe first next life mb false va vt) (h70 : A.getD 70 undef = .int .i64 o.k) (HK : KUp w wx g p ring c va vt safe first next life S L M f es ws) (hc : c ≤ 1 + 3 * k) (hk : k < 40) (hr : ring ≤ 34) (HB : KOp wx KB #[.int .i64 o.k, .int .i64 o.n, v1, v2] S p va vt)
    (Q : Exit → Act → World → Prop) (hQ : ∀ A' w', Aft w ring vo g p k KB life #[.int .i64 o.k, .int .i64 o.n, v1, v2] A' w' → Q .normal ⟨A', []⟩ w') : Code.wp Try.prog (swC Try.f17) Q ⟨A, []⟩ wx := by
  by_cases h0 : o.k = 0
  · exact sw_app HF h70 h0 HK hc hk hr HB Q hQ
  · by_cases h1 : o.k = 1
    · exact sw_force HF h70 h1 HK hc hk hr HB Q hQ
    · by_cases h2 : o.k = 2
      · exact sw_cut HF h70 h2 HK hc hk hr HB Q hQ
      · by_cases h4 : o.k = 4
        · exact sw_fuse HF h70 h4 HK hc hk hr HB Q hQ
        · exact sw_none HF h70 ⟨h0, h1, h2, h4⟩ HK hc hk hr HB Q hQ
set_option maxRecDepth 100000 in
set_option maxHeartbeats 8000000 in
/-- Behind the switch. -/
theorem rest (hA : Aft w ring vo g p k KB life #[.int .i64 o.k, .int .i64 o.n, .slice kA o.keep.length kc, .int .i64 o.tear] A wx) (hk : k < 40) (hr : ring ≤ 34) (hkC : Kd.C Kd.bool w kA o.keep.length o.keep) (hkl : o.keep.length ≤ 100)
    (Q : Exit → Act → World → Prop) (hQ1 : ∀ A' w', Fin w ring vo g k A' w' → Q .normal ⟨A', []⟩ w') (hQ2 : ∀ A' w', Fin w ring vo g k A' w' → Q (.exit 1) ⟨A', []⟩ w') : Code.wp Try.prog (restC Try.f17) Q ⟨A, []⟩ wx := by
  obtain ⟨safe, first, next, mb, cut, va, vt, HF, hB, hud⟩ := hA
  have y0 : wx.cell? ⟨KB, 0, none⟩ = some (.int .i64 o.k) := (blk_cell hB 0).trans rfl
  show Code.wp Try.prog (Code.seq (Code.seq _ _) _) Q ⟨A, []⟩ wx
  rw [HF.lit]
  have HB := Aside0.mk hB
  have HQ := Aside0.mk (And.intro hQ1 hQ2)
  have HM := Aside0.mk (And.intro hk (And.intro hr (And.intro hkC hkl)))
  clear HF hB hQ1 hQ2 hk hr hkC hkl
  rcases hud with ⟨c, S, L, M, f, es, ws, hc, hS, hu, rfl⟩ | ⟨c, S, L, D, es, ws, ct, hc, hS, hd⟩
  · have HU := Aside0.mk (And.intro hu (And.intro hc hS))
    clear hu hc hS
    by_cases h3 : o.k = 3
    · have b3 : (o.k != 3) = false := by simp [h3]
      go_upto_region 69 with fail
      refine pow (vo := vo) (va := va) (vt := vt) ⟨rfl, rfl, rfl, rfl, rfl, rfl, rfl, rfl, rfl, rfl, rfl, rfl, rfl, rfl, rfl⟩ (HU.out.1.pw (by have := HU.out; have := HM.out; omega) mb) HU.out.2.1 HM.out.1 HM.out.2.1 HB.out HU.out.2.2 HM.out.2.2.1 HM.out.2.2.2 _ ?_ _ (by assumption)
      intro A' w' h
      exact HQ.out.1 _ _ h
    · have b3 : (o.k != 3) = true := by simp [h3]
      go_wp2_with fail
      refine (down_a HU.out.1.l.G.D.I).mono ?_
      rw [show (fz M f).down = false from HU.out.1.l.I.g.d]
      rintro e w' ⟨rfl, hq⟩
      have hq2 := hq.symm
      clear hq
      subst hq2
      go_upto_region 60 with fail
      refine chk (vo := vo) (va := va) (vt := vt) ⟨rfl, rfl, rfl, rfl, rfl, rfl, rfl, rfl, rfl, rfl, rfl, rfl, rfl, rfl, rfl⟩ HU.out.1 (by have := HU.out; omega) HM.out.1 HM.out.2.1 _ ?_ _ (by assumption)
      intro A' w' h
      exact HQ.out.2 _ _ h
  · have HD := Aside0.mk (And.intro hd (And.intro hc hS))
    clear hd hc hS
    by_cases h3 : o.k = 3
    · have b3 : (o.k != 3) = false := by simp [h3]
      go_upto_region 69 with fail
      refine pow (vo := vo) (va := va) (vt := vt) ⟨rfl, rfl, rfl, rfl, rfl, rfl, rfl, rfl, rfl, rfl, rfl, rfl, rfl, rfl, rfl⟩ (HD.out.1.pw) HD.out.2.1 HM.out.1 HM.out.2.1 HB.out HD.out.2.2 HM.out.2.2.1 HM.out.2.2.2 _ ?_ _ (by assumption)
      intro A' w' h
      exact HQ.out.1 _ _ h
    · have b3 : (o.k != 3) = true := by simp [h3]
      go_wp2_with fail
      refine (down_a HD.out.1.d.st.I).mono ?_
      rw [HD.out.1.d.d]
      rintro e w' ⟨rfl, hq⟩
      have hq2 := hq.symm
      clear hq
      subst hq2
      go_upto_region 69 with fail
      refine pow (vo := vo) (va := va) (vt := vt) ⟨rfl, rfl, rfl, rfl, rfl, rfl, rfl, rfl, rfl, rfl, rfl, rfl, rfl, rfl, rfl⟩ (HD.out.1.pw) HD.out.2.1 HM.out.1 HM.out.2.1 HB.out HD.out.2.2 HM.out.2.2.1 HM.out.2.2.2 _ ?_ _ (by assumption)
      intro A' w' h
      exact HQ.out.1 _ _ h
theorem useK {P : Program} {c : Code} {Q : Exit → Act → World → Prop} {K : Act → World → Prop} (hK : ∀ a w, Code.wp P c Q a w → K a w) {a : Act} {w : World} (h : Code.wp P c Q a w) : K a w := hK a w h
/-- At a round's begin. -/
def Inv (w : World) (ring : Nat) (vo : Value) (g k : Nat) (A : Array Value) (wx : World) : Prop :=
  ∃ (p safe : Nat) (first next life mb : Int) (va vt v17 : Value), Fr A ring vo v17 g p k safe first next life mb false va vt ∧ ∃ c S L M f es ws, c ≤ 1 + 3 * k ∧ KUp w wx g p ring c va vt safe first next life S L M f es ws
set_option maxRecDepth 100000 in
set_option maxHeartbeats 8000000 in
theorem round {A1 : Option Addr} {c1 : Nat} {ops : List WpV} (hI : Inv w ring (.slice A1 ops.length c1) g k A wx) (hl1 : k < ops.length) (hl2 : k < 40) (hr : ring ≤ 34) (hCo : Kd.C kWp w A1 ops.length ops) (hwo : ∀ x ∈ ops, WpOk x) (hO : ops.length ≤ 9223372036854775807)
    (Q : Exit → Act → World → Prop) (hQ : ∀ A' w', Inv w ring (.slice A1 ops.length c1) g (k + 1) A' w' → Q .normal ⟨A', []⟩ w') : Code.wp Try.prog (roundC Try.f17) Q ⟨A, []⟩ wx := by
  obtain ⟨p, safe, first, next, life, mb, va, vt, v17, HF, c, S, L, M, f, es, ws, hc, hu⟩ := hI
  show Code.wp Try.prog (Code.seq (Code.seq _ _) _) Q ⟨A, []⟩ wx
  rw [HF.lit]
  have HK := Aside0.mk (And.intro hu hc)
  have HCO := Aside0.mk (And.intro hCo hwo)
  have HQ := Aside0.mk hQ
  have HJ := Aside0.mk (And.intro hl1 (And.intro hl2 hr))
  have b40 : decide ((k : Int) < 40) = true := decide_eq_true (by omega)
  have bop : decide ((k : Int) < (ops.length : Int)) = true := decide_eq_true (by omega)
  obtain ⟨ad, kA, kc, hA1, d0, d1, d2, d3, q1, q2⟩ := wp_at HCO.out.1 k hl1
  subst hA1
  obtain ⟨o, ho⟩ : ∃ o, o = ops[k] := ⟨_, rfl⟩
  rw [← ho] at d0 d1 d2 d3 q1 q2
  have HOP := Aside0.mk (show o.keep.length ≤ kc ∧ Kd.C Kd.bool w kA o.keep.length o.keep ∧ WpOk o from ⟨q1, q2, by rw [ho]; exact HCO.out.2 _ (List.getElem_mem _)⟩)
  have hkl := q2.2.1
  have x0 := up_cell HK.out.1.l.G.D.B d0
  have x1 := up_cell HK.out.1.l.G.D.B d1
  have x2 := up_cell HK.out.1.l.G.D.B d2
  have x3 := up_cell HK.out.1.l.G.D.B d3
  clear HF hu hc hCo hwo hQ ho d0 d1 d2 d3 q1 q2 hr
  go_upto_region 20 with fail
  have BX := Aside0.mk (blk_new wx (.cells #[.int .i64 o.k, .int .i64 o.n, .slice kA o.keep.length kc, .int .i64 o.tear] 79 (0, 0)))
  have HK2 := Aside0.mk (HK.out.1.below (below_alloc (Below.refl _ _) (.cells #[.int .i64 o.k, .int .i64 o.n, .slice kA o.keep.length kc, .int .i64 o.tear] 79 (0, 0))))
  obtain ⟨KB, hKB⟩ : ∃ n : Nat, n = wx.heap.size := ⟨_, rfl⟩
  have HKB := Aside0.mk (show (¬ S KB ∧ KB ≠ p ∧ blkOf va ≠ some KB ∧ blkOf vt ≠ some KB) from ⟨fun h => by have := (HK.out.1.l.G.D.lt KB h).2; omega, by have := HK.out.1.l.G.lt; omega, fun h => by have := (HK.out.1.r.na KB h).2; omega, fun h => by have := (HK.out.1.r.nt KB h).2.1; omega⟩)
  rw [← hKB] at BX ⊢
  generalize wx.alloc _ = wa at BX HK2 ⊢
  clear hKB x0 x1 x2 x3
  have HB := Aside0.mk (show KOp wa KB #[.int .i64 o.k, .int .i64 o.n, .slice kA o.keep.length kc, .int .i64 o.tear] S p va vt from ⟨BX.out, HKB.out.1, HKB.out.2.1, HKB.out.2.2.1, HKB.out.2.2.2⟩)
  clear HKB
  have y0 : wa.cell? ⟨KB, 0, none⟩ = some (.int .i64 o.k) := (blk_cell BX.out 0).trans rfl
  have y2 : wa.cell? ⟨KB, 2, none⟩ = some (.slice kA o.keep.length kc) := (blk_cell BX.out 2).trans rfl
  by_cases h5 : 100 < o.keep.length
  · have b5 : decide (100 < o.keep.length) = true := decide_eq_true h5
    have b6 : decide ((100 : Int) < (o.keep.length : Int)) = true := decide_eq_true (by omega)
    clear h5
    go_wp2
    refine HQ.out _ _ ⟨p, safe, first, next, life, mb, va, vt, _, ⟨rfl, rfl, rfl, rfl, rfl, rfl, rfl, rfl, rfl, rfl, rfl, rfl, rfl, rfl, rfl⟩, c, S, L, M, f, es, ws, by have := HK.out; omega, HK2.out⟩
  · have HKP := Aside0.mk (show o.keep.length ≤ 100 by omega)
    have b5 : decide (100 < o.keep.length) = false := decide_eq_false h5
    have b6 : decide ((100 : Int) < (o.keep.length : Int)) = false := decide_eq_false (by omega)
    clear h5
    go_upto_region 21 with fail
    clear b5 b6
    go_upto_block 2 with fail
    refine sw (vo := .slice (some ad) ops.length c1) (va := va) (vt := vt) ⟨rfl, rfl, rfl, rfl, rfl, rfl, rfl, rfl, rfl, rfl, rfl, rfl, rfl, rfl, rfl⟩ rfl HK2.out HK.out.2 HJ.out.2.1 HJ.out.2.2 HB.out _ ?_
    intro A' w' hA
    refine useK (c := restC Try.f17) (by assumption) ?_
    refine rest hA HJ.out.2.1 HJ.out.2.2 HOP.out.2.1 HKP.out _ ?_ ?_
    all_goals
      rintro A2 w2 ⟨p3, safe3, first3, next3, life3, mb3, va3, vt3, v173, HF3, c3, S3, L3, M3, f3, es3, ws3, hc3, hu3⟩
      rw [HF3.lit]
      have HU3 := Aside0.mk (And.intro hu3 hc3)
      clear HF3 hu3 hc3 y0 y2
      go_wp2
      refine HQ.out _ _ ⟨p3, safe3, first3, next3, life3, mb3, va3, vt3, _, ⟨rfl, rfl, rfl, rfl, rfl, rfl, rfl, rfl, rfl, rfl, rfl, rfl, rfl, rfl, rfl⟩, c3, S3, L3, M3, f3, es3, ws3, by have := HU3.out; omega, HU3.out.1⟩
set_option maxRecDepth 100000 in
set_option maxHeartbeats 8000000 in
theorem law_n (ring0 : Int) (A1 : Option Addr) (c1 : Nat) (ops : List WpV) (w : World) (hco : ops.length ≤ c1) (hCo : Kd.C kWp w A1 ops.length ops) (hwo : ∀ x ∈ ops, WpOk x) (ring : Nat) (h1 : bits .and .i64 ring0 31 = (ring : Int) - 3) (hr : 3 ≤ ring ∧ ring ≤ 34) :
    Calls Try.prog 17 #[.int .i64 ring0, .slice A1 ops.length c1] w fun e w' => e = .returned (.bool true) ∧ Below w.heap.size w w' := by
  have hO := hCo.2.1
  have HCO := Aside0.mk (And.intro hCo hwo)
  have HR := Aside0.mk hr
  obtain ⟨L0, M0', hOp, li0, x1, x2, x3, x4, x5, _⟩ := new_LI2 (ring + 5) 2 ((ring : Int) + 2) (by omega) (by omega) (by decide) (by omega)
  rw [show (((ring + 5 : Nat) : Int)) = (ring : Int) + 5 by omega] at hOp
  have HN := Aside0.mk (And.intro hOp (And.intro li0 (And.intro (new_DY (newN ((ring : Int) + 5)).toNat) (show (DA.new (newN ((ring : Int) + 5)).toNat).wait.length = 0 from rfl))))
  have HX := Aside0.mk (And.intro x1 (And.intro x2 (And.intro x3 (And.intro x4 (show L0.ring = ring by rw [x5]; omega)))))
  clear hCo hwo hco hr hOp li0 x1 x2 x3 x4 x5
  go_enter Try.func17, Try.ntmps17
  go_wp2_with fail
  refine (head_ok _).mono ?_
  rintro e w1 ⟨rfl, hb⟩
  have HB := Aside0.mk hb
  clear hb
  have hr := HR.out
  go_wp2_with fail
  rw [show (3 : Int) + ((ring : Int) - 3) = (ring : Int) by omega]
  refine (st_new (w0 := w) _ _ HB.out).mono ?_
  rintro e w2 ⟨g, S, rfl, hi, hb, hs⟩
  have HI := Aside0.mk hi
  clear hi HB hb hs
  go_wp2_with fail
  refine (open_s HI.out HN.out.2.2.1 (by rw [HN.out.2.2.2]; decide) 2 ((ring : Int) + 2) (by have := HR.out; omega) (by omega) (L := L0) (by rw [HN.out.1])).mono ?_
  rw [HN.out.1]
  rintro e w3 ⟨p, S3, rfl, _, hl, _, _⟩
  have HL := Aside0.mk (show Lg w w3 p g S3 L0 M0' from hl)
  clear hl HI
  have HK := Aside0.mk (ku_start HL.out HN.out.2.1 HX.out)
  clear HL
  go_wp2
  generalize ((w3.alloc (.cells #[] 9)).alloc (.cells #[] 55)) = wk at HK ⊢
  generalize w3.heap.size = kh at HK ⊢
  clear hr
  refine wp_loop (fun a' wr => ∃ (A : Array Value) (k : Nat), a' = ⟨A, []⟩ ∧ k ≤ 40 ∧ k ≤ ops.length ∧ Inv w ring (.slice A1 ops.length c1) g k A wr) (fun a' _ => 40 - (intOf (a'.tmps.getD 16 undef)).toNat) ?_ ?_
  · exact ⟨_, 0, rfl, Nat.zero_le _, Nat.zero_le _, p, 0, 0, 0, 1, 0, _, _, _, ⟨rfl, rfl, rfl, rfl, rfl, rfl, rfl, rfl, rfl, rfl, rfl, rfl, rfl, rfl, rfl⟩, 1, _, _, _, _, _, _, Nat.le_refl _, HK.out⟩
  · rintro a' wr ⟨A, k, rfl, hk, hko, hI⟩
    clear HK HN HX
    by_cases hlt : k < ops.length ∧ k < 40
    · refine round hI hlt.1 hlt.2 HR.out.2 HCO.out.1 HCO.out.2 hO _ ?_
      intro A' w' hI'
      refine ⟨⟨A', k + 1, rfl, hlt.2, hlt.1, hI'⟩, ?_⟩
      obtain ⟨_, _, _, _, _, _, _, _, _, HF, _⟩ := hI
      obtain ⟨_, _, _, _, _, _, _, _, _, HF', _⟩ := hI'
      have h40 := hlt.2
      show 40 - (intOf (A'.getD 16 undef)).toNat < 40 - (intOf (A.getD 16 undef)).toNat
      rw [HF.e16, HF'.e16]
      simp only [intOf, Int.toNat_natCast]
      omega
    · obtain ⟨p2, safe, first, next, life, mb, va, vt, v17, HF, c, S, L, M, f, es, ws, hc, hu⟩ := hI
      rw [HF.lit]
      have hbb : decide (k < ops.length) = false ∨ (decide (k < ops.length) = true ∧ k < ops.length ∧ decide ((k : Int) < 40) = false) := by
        rcases Nat.lt_or_ge k ops.length with h | h
        · exact .inr ⟨decide_eq_true h, h, decide_eq_false (by omega)⟩
        · exact .inl (decide_eq_false (by omega))
      have HBE := Aside0.mk hu.l.G.D.B
      clear hlt hko HF hu hc
      rcases hbb with bb | ⟨bb, bb2, bb3⟩
      all_goals
        go_wp2
        go_ret
        exact ⟨rfl, HBE.out⟩
theorem law_ok (ring : Int) (A1 : Option Addr) (c1 : Nat) (ops : List WpV) (w : World) (hr : (Lit.int .i64 ring).wf = true) (hco : ops.length ≤ c1) (hCo : Kd.C kWp w A1 ops.length ops) (hwo : ∀ x ∈ ops, WpOk x) :
    Calls Try.prog 17 #[.int .i64 ring, .slice A1 ops.length c1] w fun e w' => e = .returned (.bool true) ∧ Below w.heap.size w w' := by
  have e1 := Bits.and_31 ring
  exact law_n ring A1 c1 ops w hco hCo hwo ((ring % 32).toNat + 3) (by rw [e1]; omega) (by omega)
end
end WalKeeps
end Go.Proofs.Ytihmfccpgahmaaa.Wal
