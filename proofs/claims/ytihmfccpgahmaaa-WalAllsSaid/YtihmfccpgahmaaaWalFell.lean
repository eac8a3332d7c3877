/- What is found when the power went: behind Append, Force, Cut, or between them. Plain Lean. No conditions beyond those that are named. -/
import Derived.Test.YtihmfccpgahmaaaWalFuseC
namespace Go.Proofs.Ytihmfccpgahmaaa.Wal
open Go Go.RowKit
open Go.Proofs.YtihmfccpgahmaaaW.PrintWords hiding Kept Kept.refl
open Go.Proofs.YtihmfccpgahmaaaW.PrintMore Go.Proofs.YtihmfccpgahmaaaW.PrintLast Go.Proofs.Ytihmfccpgahmaaa.Dk Go.Proofs.Ytihmfccpgahmaaa.Q Go.Proofs.Ytihmfccpgahmaaa.Str Go.Proofs.Ytihmfccpgahmaaa.Leb
set_option linter.unusedVariables false
set_option linter.unusedSimpArgs false
section
variable {M M' D : DA} {N c : Nat} {L : LA} {es ws a b : List (Int × List Int)} {f lsn : Int} {cut : Option (Int × List (Int × List Int))}
/-- Whatever stays, the log opens: all that was safe and the first ones of the rest, or the Cut was made. -/
def Fell (N c : Nat) (L : LA) (D : DA) (es ws : List (Int × List Int)) (cut : Option (Int × List (Int × List Int))) : Prop :=
  ∀ keep tear, DY (D.off.on keep tear) ∧ ∃ L' M' es', opn (D.off.on keep tear) L.fr (L.ring + 2) = ⟨some L', 0, M'⟩ ∧ LI N (c + 2) L' M' es' [] ∧ L'.life = L.life + 1 ∧ L'.fr = L.fr ∧ L'.ring = L.ring ∧
    ((L'.start = L.start ∧ ∃ t1 t2, ws = t1 ++ t2 ∧ es' = es ++ t1) ∨ ∃ lsn b, cut = some (lsn, b) ∧ L'.start = lsn ∧ es' = b)
theorem CI.off {Rs : Int → Part} {nx : Int} (h : CI N c L M es ws Rs nx) : CI N c L M.off es ws Rs nx :=
  { h with D := ⟨h.D.n, h.D.t, h.D.s, h.D.b, h.D.w, h.D.y⟩, Y := ⟨h.Y.now, h.Y.safe, h.Y.wait⟩ }
theorem CI.fell {Rs : Int → Part} {nx : Int} (h : CI N c L M es ws Rs nx) (hc : c ≤ 99999) (cut : Option (Int × List (Int × List Int))) : Fell N c L M es ws cut := by
  intro keep tear
  obtain ⟨t1, t2, z, L', M', hL, e, li, k1, k2, k3, k4, k5, _⟩ := h.off.crash (by omega) keep tear
  exact ⟨on_DY _ _ h.off.Y, L', M', _, e, li.mono (Nat.le_succ _), k1, k4, k5, .inl ⟨k2, t1, t2, hL.w, rfl⟩⟩
theorem fz_CI {Rs : Int → Part} {nx : Int} (h : CI N c L M es ws Rs nx) (f : Int) : CI N c L (fz M f) es ws Rs nx :=
  { h with D := ⟨h.D.n, h.D.t, h.D.s, h.D.b, h.D.w, h.D.y⟩, Y := ⟨h.Y.now, h.Y.safe, h.Y.wait⟩ }
/-- Cut, with a fuse. -/
theorem LI.cut_fz (h : LI N c L M es ws) (hc : c ≤ 99999) (hab : es ++ ws = a ++ b) (ha : Ents (L.rd M) L.start L.floor a lsn) (hb : Ents (L.rd M) lsn (lastL L.floor a) b L.next) (h0 : 0 ≤ f) :
    (∃ L' M' f', L.cut (fz M f) lsn = ⟨0, L', fz M' f'⟩ ∧ 0 ≤ f' ∧ LI N (c + 1) L' M' b [] ∧ L'.start = lsn ∧ L'.next = L.next ∧ L'.life = L.life ∧ L'.fr = L.fr ∧ L'.ring = L.ring) ∨
    ((L.cut (fz M f) lsn).e = 8 ∧ (L.cut (fz M f) lsn).M.down = true ∧ Fell N c L (L.cut (fz M f) lsn).M es ws (some (lsn, b))) := by
  have hc6 : c ≤ 1000000 := by omega
  have hl0 := Ents.le _ _ _ ha
  have hl1 := Ents.le _ _ _ hb
  have hq0 := h.C.q0
  have hq1 := h.C.q1
  have hx1 := h.C.x1
  have hs0 := h.C.s0
  have hlf0 := h.C.l0
  have hlf1 := h.C.l1
  have hf0 := h.C.f0
  have hfn := h.C.fn
  have hr0 := h.C.r0
  have hn6 := h.C.n6
  have ho0 := h.C.o0
  have ho1 := h.C.o1
  rcases h.force_fz hc6 h0 with ⟨f1, e1, hf1⟩ | ⟨e1, e2, e3, e4⟩
  · obtain ⟨g1, g2, g3, g4⟩ := h.force hc6
    obtain ⟨_, _, _, r4⟩ := force_good (L := L) h.g
    have hrd : L.rd (L.force M).M = L.rd M := funext fun m => by
      obtain ⟨p0, p1, _⟩ := (h.C.geo hc6).pl m
      exact rd_cong (r4 _ p0 p1)
    have hlast := h.last
    have hno := h.noN hc6
    rw [hab, lastL_append] at hlast hno
    unfold LA.cut
    rw [if_neg (by omega), e1, if_neg (fun q => q rfl)]
    generalize (L.force M).M = M1 at g3 g4 hrd ⊢
    rw [← hrd] at hno
    obtain ⟨L0, hL0, x1, x2, x3, x4, x5, x6, x7⟩ : ∃ L0 : LA, L0 = { L with forced := L.next } ∧ L0.fr = L.fr ∧ L0.ring = L.ring ∧ L0.seq = L.seq ∧ L0.life = L.life ∧ L0.start = L.start ∧ L0.floor = L.floor ∧ L0.next = L.next := ⟨_, rfl, rfl, rfl, rfl, rfl, rfl, rfl, rfl⟩
    have hrd0 : L0.rd M1 = L.rd M := by rw [← hrd, hL0]; rfl
    have hrdf : L0.rd (fz M1 f1) = L.rd M := hrd0
    dsimp only
    rw [← hL0]
    have hfinish : ∀ fl : Int, 0 ≤ fl → fl ≤ L0.life → Ents (L0.rd M1) lsn fl b L0.next → lastL fl b ≤ L0.life → NoE (L0.rd M1) L0.next (lastL fl b) → LI N c L0 M1 (es ++ ws) [] →
        ((∃ L' M' f', ((L0.at_ lsn).fl fl).marked (fz M1 f1) = ⟨0, L', fz M' f'⟩ ∧ 0 ≤ f' ∧ LI N (c + 1) L' M' b [] ∧ L'.start = lsn ∧ L'.next = L.next ∧ L'.life = L.life ∧ L'.fr = L.fr ∧ L'.ring = L.ring) ∨
          ((((L0.at_ lsn).fl fl).marked (fz M1 f1)).e = 8 ∧ (((L0.at_ lsn).fl fl).marked (fz M1 f1)).M.down = true ∧ Fell N c L (((L0.at_ lsn).fl fl).marked (fz M1 f1)).M es ws (some (lsn, b)))) := by
      intro fl u1 u2 u3 u4 u5 li
      obtain ⟨m1, m2, m3⟩ := mark_LI (lsn := lsn) li (by omega) (by omega) u3 u1 u2 u4 u5
      obtain ⟨L1, hL1, a1, a2, a3, a4, a5, a6, a7⟩ : ∃ L1 : LA, L1 = (L0.at_ lsn).fl fl ∧ L1.fr = L.fr ∧ L1.ring = L.ring ∧ L1.seq = L.seq ∧ L1.life = L.life ∧ L1.start = lsn ∧ L1.floor = fl ∧ L1.next = L.next := ⟨_, rfl, x1, x2, x3, x4, rfl, rfl, x7⟩
      have hNm : L1.up.Nm := ⟨⟨by show 0 ≤ L1.fr; omega, by show L1.fr ≤ 65536; omega⟩, ⟨by show 0 ≤ L1.seq + 1; omega, by show L1.seq + 1 < _; omega⟩, ⟨by show 0 ≤ L1.life; omega, by show L1.life < _; omega⟩, ⟨by show 0 ≤ L1.start; omega, by show L1.start < _; omega⟩, ⟨by show 0 ≤ L1.floor; omega, by show L1.floor < _; omega⟩⟩
      have hI : L1.mkI = L1.fr + (L1.seq + 1) % 2 := rfl
      rcases mark_fz (L1 := L1) (f := f1) li.g li.C.D li.C.Y g4 hNm (by rw [hI]; omega) (by rw [hI]; omega) hf1 with ⟨f2, w1, w2, w3⟩ | ⟨w1, w2, w3⟩
      · left
        rw [← hL1] at m1 m2 ⊢
        refine ⟨L1.up, L1.mkM M1, f2, ?_, w3, m2, a5, a7, a4, a1, a2⟩
        show (⟨L1.mkE _, L1.up, L1.mkM _⟩ : CutR) = _
        rw [w1, w2]
      · right
        rw [← hL1]
        refine ⟨w1, w2, fun keep tear => ?_⟩
        have hmi : MI N M1 (L1.mkM (fz M1 f1)).off ((L0.at_ lsn).fl fl) := by
          rw [← hL1]
          exact ⟨⟨w3.D.n, w3.D.t, w3.D.s, w3.D.b, w3.D.w, w3.D.y⟩, ⟨w3.Y.now, w3.Y.safe, w3.Y.wait⟩, w3.s, w3.b, w3.w⟩
        obtain ⟨L', M'', e, k1, k2, k3, k4, _, k6⟩ := crash_mark (lsn := lsn) li (by omega) (by omega) u3 u1 u2 u4 u5 hmi keep tear
        rw [x1, x2] at e
        refine ⟨on_DY _ _ hmi.Y, ?_⟩
        rcases k6 with ⟨k6, k7⟩ | ⟨k6, k7⟩
        · exact ⟨L', M'', _, e, k6, k1.trans (by rw [x4]), k3.trans x1, k4.trans x2, .inl ⟨k7.trans x5, ws, [], (List.append_nil _).symm, rfl⟩⟩
        · exact ⟨L', M'', _, e, k6, k1.trans (by rw [x4]), k3.trans x1, k4.trans x2, .inr ⟨lsn, b, rfl, k7, rfl⟩⟩
    have g3' : LI N c L0 M1 (es ++ ws) [] := by rw [hL0]; exact g3
    unfold LA.cut2
    by_cases hs : L0.start = lsn
    · rw [if_pos hs]
      left
      have ha0 : a = [] := by rw [← hs, x5] at ha; exact ents_nil ha
      subst ha0
      rw [hab] at g3'
      have e : L0.at_ lsn = L0 := by
        unfold LA.at_
        exact congrArg (fun x => ({ L0 with start := x } : LA)) hs.symm
      rw [e]
      exact ⟨L0, M1, f1, rfl, hf1, g3'.mono (Nat.le_succ c), hs, x7, x4, x1, x2⟩
    · rw [if_neg hs]
      by_cases hn : lsn < L0.next
      · rw [if_pos hn]
        cases b with
        | nil =>
          have : lsn = L.next := hb
          omega
        | cons x t =>
          obtain ⟨b1, b2, b3, b4⟩ := hb
          have hxp := needN_pos x.2.length
          have hlv := lies_life _ _ _ b3 lsn (Int.le_refl _) (by omega)
          have hll := lastL_le _ _ _ b4
          have hge := lastL_le _ _ _ ha
          have hlx : lastL (lastL L.floor a) (x :: t) = lastL x.1 t := rfl
          rw [hlx] at hlast hno
          have hrd1 : ((L0.at_ lsn).fl L0.life).rd (fz M1 f1) lsn = L.rd M lsn := (show _ = L0.rd (fz M1 f1) lsn from rfl).trans (by rw [hrdf])
          rw [hrd1, hlv.1, hlv.2, rdE_zero h.g (h.C.geo hc6), if_neg (by rintro (q | q); exact q rfl; cases q)]
          exact hfinish x.1 (by omega) (by omega) (by rw [hrd0, x7]; exact ⟨b1, Int.le_refl _, b3, b4⟩) (by rw [x4]; exact hlast) (by rw [hrd0, ← hrd, x7]; exact hno) g3'
      · rw [if_neg hn]
        have e : lsn = L.next := by omega
        have hb0 : b = [] := by rw [e] at hb; exact ents_nil hb
        subst hb0
        exact hfinish L0.life (by omega) (Int.le_refl _) (by show lsn = L0.next; omega) (Int.le_refl _) (by
          rw [hrd0, x4, x7]
          exact NoE.bad (rdE_zero h.g (h.C.geo hc6) _) (fun ho => h.lowN hc6 _ (Int.le_refl _) ho)) g3'
  · right
    unfold LA.cut
    rw [if_neg (by omega), if_pos (by rw [e1]; decide)]
    exact ⟨e1, e3, e4.fell hc _⟩
end
end Go.Proofs.Ytihmfccpgahmaaa.Wal
