/- The log on a disk whose power goes at a write or a sync: what Append, Force and Cut leave. Plain Lean. No conditions beyond those that are named. -/
import Derived.Test.YtihmfccpgahmaaaWalCr
namespace Go.Proofs.Ytihmfccpgahmaaa.Wal
open Go Go.RowKit
open Go.Proofs.YtihmfccpgahmaaaW.PrintWords hiding Kept Kept.refl
open Go.Proofs.YtihmfccpgahmaaaW.PrintMore Go.Proofs.YtihmfccpgahmaaaW.PrintLast Go.Proofs.Ytihmfccpgahmaaa.Dk Go.Proofs.Ytihmfccpgahmaaa.Q Go.Proofs.Ytihmfccpgahmaaa.Str Go.Proofs.Ytihmfccpgahmaaa.Leb
set_option linter.unusedVariables false
set_option linter.unusedSimpArgs false
/-- The disk with a fuse. -/
def fz (M : DA) (f : Int) : DA := { M with fuse := f }
/-- What is left of a fuse after n steps. -/
def lf (f : Int) (n : Int) : Int := if f = 0 then 0 else f - n
section
variable {M M' : DA} {N c : Nat} {L : LA} {es ws a b : List (Int × List Int)} {f : Int}
theorem fz_step (hM : Gd M N) (h0 : 0 ≤ f) (h1 : f ≠ 1) : (fz M f).step = fz M.step (lf f 1) ∧ (fz M f).stepE = 0 := by
  have e : (fz M f).fuse = f := rfl
  refine ⟨?_, by unfold DA.stepE; rw [e, if_neg h1]⟩
  rw [hM.step]
  unfold DA.step
  rw [if_neg (show ¬ (fz M f).fuse = 1 from h1)]
  unfold lf
  by_cases hf : f = 0
  · rw [if_neg (show ¬ 0 < (fz M f).fuse by rw [e]; omega), if_pos hf, hf]; rfl
  · rw [if_pos (show 0 < (fz M f).fuse by rw [e]; omega), if_neg hf]; rfl
theorem fz_wr (hM : Gd M N) (h0 : 0 ≤ f) (h1 : f ≠ 1) {i : Int} (i0 : 0 ≤ i) (i1 : i < N) {l : List Int} (hl : l.length ≤ 512) : (fz M f).wr i l = fz (M.wr i l) (lf f 1) ∧ (fz M f).wrE i l.length = 0 := by
  have ha := hM.ask i0 i1
  have ha2 : (fz M f).ask i = 0 := ha
  obtain ⟨s1, s2⟩ := fz_step hM h0 h1
  refine ⟨?_, ?_⟩
  · unfold DA.wr
    rw [if_pos ⟨ha2, hl⟩, if_pos ⟨ha, hl⟩, s1]
    rfl
  · unfold DA.wrE
    rw [ha2, if_neg (by omega), if_pos rfl]
    exact s2
theorem fz_wr1 (hM : Gd M N) {i : Int} (i0 : 0 ≤ i) (i1 : i < N) {l : List Int} (hl : l.length ≤ 512) : (fz M 1).wrE i l.length = 8 ∧ ((fz M 1).wr i l).down = true ∧ ((fz M 1).wr i l).wait = M.wait ++ [(i, l)] := by
  have ha : (fz M 1).ask i = 0 := hM.ask i0 i1
  refine ⟨?_, ?_, (wr_parts i l ha hl).2.2.2.2⟩
  · unfold DA.wrE
    rw [ha, if_neg (by omega), if_pos rfl]
    rfl
  · unfold DA.wr
    rw [if_pos ⟨ha, hl⟩]
    rfl
theorem lf_lf {n : Int} (hn : 0 ≤ n) (h0 : 0 ≤ f) (h : f = 0 ∨ n + 1 < f) : lf (lf f 1) n = lf f (n + 1) ∧ 0 ≤ lf f 1 ∧ (lf f 1 = 0 ∨ n < lf f 1) := by
  unfold lf
  by_cases hf : f = 0
  · rw [if_pos hf, if_pos rfl, if_pos hf]
    exact ⟨rfl, Int.le_refl _, .inl rfl⟩
  · rw [if_neg hf, if_neg hf]
    rcases h with h | h
    · exact absurd h hf
    · by_cases h2 : f - 1 = 0
      · rw [if_pos h2]
        omega
      · rw [if_neg h2]
        exact ⟨by omega, by omega, .inr (by omega)⟩
theorem app_fz : ∀ (k : Nat) (r : List Int) (L : LA) (M : DA) (f : Int), Gd M N → Geo L N → 0 ≤ L.next → L.next + needN r.length ≤ 9223372036854775807 → needN r.length ≤ k → 0 ≤ f → (f = 0 ∨ (needN r.length : Int) < f) →
    (L.app (fz M f) k r).L = (L.app M k r).L ∧ (L.app (fz M f) k r).M = fz (L.app M k r).M (lf f (needN r.length)) ∧ (L.app (fz M f) k r).e = 0
  | 0, r, L, M, f, hM, hg, h0, h1, h2, hf0, hf => by have := needN_pos r.length; omega
  | k + 1, r, L, M, f, hM, hg, h0, h1, h2, hf0, hf => by
    have hp := needN_pos r.length
    obtain ⟨p0, p1, _⟩ := hg.pl L.next
    have hl0 := hg.l0
    have hl1 := hg.l1
    have hlen : (secB L.next L.life (decide (r.length ≤ 480)) (r.take 480)).length ≤ 512 := sec_len (by omega) (by omega) (by rw [List.length_take]; omega)
    obtain ⟨B, hB⟩ : ∃ B, B = secB L.next L.life (decide (r.length ≤ 480)) (r.take 480) := ⟨_, rfl⟩
    rw [← hB] at hlen
    have hwe := hM.wrE p0 p1 hlen
    have hg1 := hM.wr p0 p1 hlen
    obtain ⟨w1, w2⟩ := fz_wr hM hf0 (by omega) p0 p1 hlen
    rw [app_succ, app_succ, ← hB, if_pos hwe, if_pos w2, w1]
    by_cases hl : r.length ≤ 480
    · rw [if_pos hl, if_pos hl, needN_one hl]
      exact ⟨rfl, rfl, rfl⟩
    · rw [if_neg hl, if_neg hl]
      have hn := needN_more (show 480 < r.length by omega)
      have hd : (r.drop 480).length = r.length - 480 := List.length_drop
      have hll := lf_lf (f := f) (n := (needN (r.length - 480) : Int)) (Int.natCast_nonneg _) hf0 (by omega)
      have ih := app_fz k (r.drop 480) L.app1 (M.wr (L.pl L.next) B) (lf f 1) hg1 ⟨hg.f0, hg.r0, hg.fn, hg.l0, hg.l1⟩ (by show 0 ≤ L.next + 1; omega) (by show L.next + 1 + _ ≤ _; rw [hd]; omega) (by rw [hd]; omega) hll.2.1 (by rw [hd]; exact hll.2.2)
      rw [hd, hll.1] at ih
      rw [hn]
      exact ih
/-- The fuse blows while an entry is laid. -/
theorem app_fz1 : ∀ (k : Nat) (r : List Int) (L : LA) (M : DA) (f : Int), Gd M N → Geo L N → 0 ≤ L.next → L.next + needN r.length ≤ 9223372036854775807 → needN r.length ≤ k → 1 ≤ f → f ≤ (needN r.length : Int) →
    (L.app (fz M f) k r).e = 8 ∧ (L.app (fz M f) k r).M.down = true ∧ (L.app (fz M f) k r).M.wait = M.wait ++ (L.wrs k r).take f.toNat
  | 0, r, L, M, f, hM, hg, h0, h1, h2, hf0, hf => by have := needN_pos r.length; omega
  | k + 1, r, L, M, f, hM, hg, h0, h1, h2, hf0, hf => by
    have hp := needN_pos r.length
    obtain ⟨p0, p1, _⟩ := hg.pl L.next
    have hl0 := hg.l0
    have hl1 := hg.l1
    have hlen : (secB L.next L.life (decide (r.length ≤ 480)) (r.take 480)).length ≤ 512 := sec_len (by omega) (by omega) (by rw [List.length_take]; omega)
    have hws : L.wrs (k + 1) r = (L.pl L.next, secB L.next L.life (decide (r.length ≤ 480)) (r.take 480)) :: (if r.length ≤ 480 then [] else L.app1.wrs k (r.drop 480)) := rfl
    rw [hws]
    obtain ⟨B, hB⟩ : ∃ B, B = secB L.next L.life (decide (r.length ≤ 480)) (r.take 480) := ⟨_, rfl⟩
    rw [← hB] at hlen ⊢
    by_cases h11 : f = 1
    · subst h11
      obtain ⟨w1, w2, w3⟩ := fz_wr1 hM p0 p1 hlen
      rw [app_succ, ← hB, if_neg (by rw [w1]; decide)]
      exact ⟨w1, w2, w3⟩
    · have hg1 := hM.wr p0 p1 hlen
      obtain ⟨w1, w2⟩ := fz_wr hM (by omega) h11 p0 p1 hlen
      rw [app_succ, ← hB, if_pos w2, w1]
      have hl : ¬ r.length ≤ 480 := fun hl => by rw [needN_one hl] at hf; omega
      rw [if_neg hl, if_neg hl]
      have hn := needN_more (show 480 < r.length by omega)
      have hd : (r.drop 480).length = r.length - 480 := List.length_drop
      have hlf : lf f 1 = f - 1 := if_neg (by omega)
      have ih := app_fz1 k (r.drop 480) L.app1 (M.wr (L.pl L.next) B) (lf f 1) hg1 ⟨hg.f0, hg.r0, hg.fn, hg.l0, hg.l1⟩ (by show 0 ≤ L.next + 1; omega) (by show L.next + 1 + _ ≤ _; rw [hd]; omega) (by rw [hd]; omega) (by rw [hlf]; omega) (by rw [hlf, hd]; omega)
      obtain ⟨i1, i2, i3⟩ := ih
      refine ⟨i1, i2, ?_⟩
      rw [i3, (wr_parts _ _ (hM.ask p0 p1) hlen).2.2.2.2, List.append_assoc, hlf]
      obtain ⟨m, hm⟩ : ∃ m, f.toNat = m + 1 := ⟨f.toNat - 1, by omega⟩
      rw [show (f - 1).toNat = m by omega, hm, List.take_succ_cons]
      rfl
/-- Of the waiting sectors only the first ones came. -/
theorem CI.few {Rs : Int → Part} {nx : Int} (h : CI N c L M es ws Rs nx) (hD : Dn M' N) (hY : DY M') (hs : M'.safe = M.safe) (hb : M'.bad = M.bad) {m : Nat} (hw : M'.wait = M.wait.take m) (hc : c ≤ 1000000) : CI N c L M' es ws Rs nx := by
  have hrd : L.rd (sdk M') = L.rd (sdk M) := funext fun n => by
    obtain ⟨p0, p1, _⟩ := (h.geo hc).pl n
    exact rd_cong (sdk_see h.D hD hs hb p0 p1)
  have hwl : M'.wait.length ≤ M.wait.length := by rw [hw]; exact List.length_take_le' ..
  refine { h with D := hD, Y := hY, eS := by rw [hrd]; exact h.eS, low := by rw [hrd]; exact h.low, no := by rw [hrd]; exact h.no, ma := h.ma.frame (fun n n0 n1 => sdk_see h.D hD hs hb (by have := h.f0; omega) (by have := h.fn; have := h.r0; omega)), wn := by have := h.wn; omega, wa := fun k hk => ?_ }
  have e : wk M' k = wk M k := by
    unfold wk
    rw [hw] at hk ⊢
    rw [List.getD_eq_getElem?_getD, List.getD_eq_getElem?_getD, List.getElem?_take, if_pos (by rw [List.length_take] at hk; omega)]
  rw [e]
  exact h.wa k (by omega)
/-- Append, with a fuse. -/
theorem LI.append_fz (h : LI N c L M es ws) (hc : c ≤ 100000) {b : List Int} (hb : Byt b) (hl : b.length ≤ 16384) (hr : (needN b.length : Int) ≤ L.free) (h0 : 0 ≤ f) :
    (∃ M', L.append (fz M f) b = ⟨L.next, 0, { L with next := L.next + needN b.length }, fz M' (lf f (needN b.length))⟩ ∧ 0 ≤ lf f (needN b.length) ∧ LI N (c + 1) { L with next := L.next + needN b.length } M' es (ws ++ [(L.life, b)])) ∨
    (∃ M' L', (L.append (fz M f) b).e = 8 ∧ (L.append (fz M f) b).M = M' ∧ M'.down = true ∧ L' = { L with next := L.next + needN b.length } ∧ CI N (c + 1) L' M' es (ws ++ [(L.life, b)]) (L'.rd (L.append M b).M) L'.next) := by
  obtain ⟨M1, e1, li, hw⟩ := h.append (by omega) hb hl hr
  have hgeo := h.C.geo (by omega)
  have hn35 : needN b.length ≤ 35 := by unfold needN; omega
  have hx1 := h.C.x1
  have hs0 := h.C.s0
  have hsf := h.C.sf
  have hfx := h.C.fx
  have hr2 := hr
  unfold LA.free at hr2
  have eA : ∀ M, L.append M b = ⟨if (L.app M (needN b.length) b).e = 0 then L.next else 0, (L.app M (needN b.length) b).e, (L.app M (needN b.length) b).L, (L.app M (needN b.length) b).M⟩ := fun M => by
    unfold LA.append LA.free
    rw [if_neg (by omega), if_neg (by omega)]
  have e2 := e1
  rw [eA] at e2
  have q1 : (L.app M (needN b.length) b).L = { L with next := L.next + needN b.length } := ((AppR.mk.injEq ..).mp e2).2.2.1
  have q2 : (L.app M (needN b.length) b).M = M1 := ((AppR.mk.injEq ..).mp e2).2.2.2
  by_cases hf : f = 0 ∨ (needN b.length : Int) < f
  · left
    obtain ⟨a1, a2, a3⟩ := app_fz (needN b.length) b L M f h.g hgeo (by omega) (by omega) (Nat.le_refl _) h0 hf
    refine ⟨M1, ?_, by unfold lf; split <;> omega, li⟩
    rw [eA, a1, a2, a3, if_pos rfl, q1, q2]
  · right
    obtain ⟨a1, a2, a3⟩ := app_fz1 (needN b.length) b L M f h.g hgeo (by omega) (by omega) (Nat.le_refl _) (by omega) (by omega)
    have hDf : Dn (fz M f) N := ⟨h.C.D.n, h.C.D.t, h.C.D.s, h.C.D.b, h.C.D.w, h.C.D.y⟩
    obtain ⟨d1, d2, d3⟩ := app_safe hgeo (needN b.length) b L.next (fz M f) hDf
    obtain ⟨d4, d5, d6⟩ := app_safe hgeo (needN b.length) b L.next M h.C.D
    have hYf : DY (L.append (fz M f) b).M := (append_ok' L (fz M f) hb).1.y ⟨h.C.Y.now, h.C.Y.safe, h.C.Y.wait⟩
    have hM1 : (L.append (fz M f) b).M = (L.app (fz M f) (needN b.length) b).M := by rw [eA]
    refine ⟨(L.append (fz M f) b).M, _, by rw [eA]; exact a1, rfl, by rw [hM1]; exact a2, rfl, ?_⟩
    have hMM : (L.append M b).M = M1 := by rw [e1]
    rw [hMM]
    have hsz : (M.wait ++ L.wrs (needN b.length) b).take (M.wait.length + f.toNat) = M.wait ++ (L.wrs (needN b.length) b).take f.toNat := by
      rw [List.take_append, List.take_of_length_le (by omega), show M.wait.length + f.toNat - M.wait.length = f.toNat by omega]
    refine li.C.few (m := M.wait.length + f.toNat) (by rw [hM1]; exact d1) hYf ?_ ?_ ?_ (by omega)
    · rw [hM1]; exact d2.trans (d5.symm.trans (congrArg DA.safe q2))
    · rw [hM1]; exact d3.trans (d6.symm.trans (congrArg DA.bad q2))
    · rw [hM1, a3, hw, hsz]
end
end Go.Proofs.Ytihmfccpgahmaaa.Wal
