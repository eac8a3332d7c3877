/- Force and Cut on a disk whose power goes at a write or a sync, and what is found then. Plain Lean. No conditions beyond those that are named. -/
import Derived.Test.YtihmfccpgahmaaaWalFuse
namespace Go.Proofs.Ytihmfccpgahmaaa.Wal
open Go Go.RowKit
open Go.Proofs.YtihmfccpgahmaaaW.PrintWords hiding Kept Kept.refl
open Go.Proofs.YtihmfccpgahmaaaW.PrintMore Go.Proofs.YtihmfccpgahmaaaW.PrintLast Go.Proofs.Ytihmfccpgahmaaa.Dk Go.Proofs.Ytihmfccpgahmaaa.Q Go.Proofs.Ytihmfccpgahmaaa.Str Go.Proofs.Ytihmfccpgahmaaa.Leb
set_option linter.unusedVariables false
set_option linter.unusedSimpArgs false
theorem fold_fz (f : Int) : ∀ (l : List (Int × List Int)) (M : DA), l.foldl DA.lay (fz M f) = fz (l.foldl DA.lay M) f
  | [], _ => rfl
  | x :: l, M => fold_fz f l (M.lay x)
section
variable {M M' : DA} {N c : Nat} {L : LA} {es ws a b : List (Int × List Int)} {f lsn fl : Int}
theorem fz_dn (h : Dn M N) : Dn (fz M f) N := ⟨h.n, h.t, h.s, h.b, h.w, h.y⟩
theorem fz_dy (h : DY M) : DY (fz M f) := ⟨h.now, h.safe, h.wait⟩
theorem fz_sy (hM : Gd M N) (h0 : 0 ≤ f) (h1 : f ≠ 1) : (fz M f).sy = fz M.sy (lf f 1) ∧ (fz M f).syE = 0 := by
  obtain ⟨s1, s2⟩ := fz_step hM h0 h1
  have hd : (fz M f).down = false := hM.d
  refine ⟨?_, ?_⟩
  · unfold DA.sy
    rw [if_neg (by rw [hd]; decide), if_neg (show ¬ (fz M f).fuse = 1 from h1), if_neg (by rw [hM.d]; decide), if_neg (by rw [hM.f]; decide), s1]
    show ({ (M.step.wait.foldl DA.lay (fz M.step (lf f 1))) with wait := [] } : DA) = _
    rw [fold_fz]
    rfl
  · unfold DA.syE
    rw [if_neg (by rw [hd]; decide)]
    exact s2
theorem fz_sy1 (hM : Gd M N) : (fz M 1).syE = 8 ∧ (fz M 1).sy.down = true ∧ (fz M 1).sy.wait = M.wait ∧ (fz M 1).sy.safe = M.safe ∧ (fz M 1).sy.bad = M.bad := by
  have hd : (fz M 1).down = false := hM.d
  have e : (fz M 1).sy = { M with fuse := 0, down := true } := by
    unfold DA.sy
    rw [if_neg (by rw [hd]; decide), if_pos (show (fz M 1).fuse = 1 from rfl)]
    unfold DA.step
    rw [if_pos (show (fz M 1).fuse = 1 from rfl)]
    rfl
  refine ⟨?_, by rw [e], by rw [e], by rw [e], by rw [e]⟩
  unfold DA.syE
  rw [if_neg (by rw [hd]; decide)]
  rfl
/-- Force, with a fuse. -/
theorem LI.force_fz (h : LI N c L M es ws) (hc : c ≤ 1000000) (h0 : 0 ≤ f) :
    (∃ f', L.force (fz M f) = ⟨0, { L with forced := L.next }, fz (L.force M).M f'⟩ ∧ 0 ≤ f') ∨
    ((L.force (fz M f)).e = 8 ∧ (L.force (fz M f)).L = L ∧ (L.force (fz M f)).M.down = true ∧ CI N c L (L.force (fz M f)).M es ws (L.rd M) L.next) := by
  unfold LA.force
  by_cases hf : L.forced = L.next
  · left
    rw [if_pos hf, if_pos hf]
    exact ⟨f, congrArg (fun x => (⟨0, ({ L with forced := x } : LA), fz M f⟩ : CutR)) hf, h0⟩
  · rw [if_neg hf, if_neg hf, if_pos h.g.sy_eq.2.2.2.2.2]
    by_cases h1 : f = 1
    · right
      subst h1
      obtain ⟨a1, a2, a3, a4, a5⟩ := fz_sy1 h.g
      rw [if_neg (by rw [a1]; decide)]
      exact ⟨a1, rfl, a2, h.C.few (m := M.wait.length) (fz_dn h.C.D).sy (fz_dy h.C.Y).sy a4 a5 (by rw [List.take_length]; exact a3) hc⟩
    · left
      obtain ⟨a1, a2⟩ := fz_sy h.g h0 h1
      rw [if_pos a2, a1]
      exact ⟨lf f 1, rfl, by unfold lf; split <;> omega⟩
/-- A master waits on a disk whose power is off. -/
structure MI (N : Nat) (M M' : DA) (L1 : LA) : Prop where
  D : Dn M' N
  Y : DY M'
  s : M'.safe = M.safe
  b : M'.bad = M.bad
  w : M'.wait = [(L1.mkI, L1.up.mb)]
/-- A mark, with a fuse. -/
theorem mark_fz {L1 : LA} (hM : Gd M N) (hD : Dn M N) (hY : DY M) (hw : M.wait = []) (hN : L1.up.Nm) (i0 : 0 ≤ L1.mkI) (i1 : L1.mkI < N) (h0 : 0 ≤ f) :
    (∃ f', L1.mkE (fz M f) = 0 ∧ L1.mkM (fz M f) = fz (L1.mkM M) f' ∧ 0 ≤ f') ∨ (L1.mkE (fz M f) = 8 ∧ (L1.mkM (fz M f)).down = true ∧ MI N M (L1.mkM (fz M f)) L1) := by
  have hl := mb_len hN
  have hl5 : L1.up.mb.length ≤ 512 := by omega
  have hwe := hM.wrE i0 i1 hl5
  have hgw := hM.wr i0 i1 hl5
  have hpw := wr_parts L1.mkI L1.up.mb (hM.ask i0 i1) hl5
  unfold LA.mkE LA.mkM
  rw [if_pos hwe]
  by_cases h1 : f = 1
  · right
    subst h1
    obtain ⟨w1, w2, w3⟩ := fz_wr1 hM i0 i1 hl5
    rw [if_neg (by rw [w1]; decide), if_neg (by rw [w1]; decide)]
    have hs := wr_safe (fz M 1) L1.mkI L1.up.mb
    exact ⟨w1, w2, (fz_dn hD).wr i0 i1 _, (fz_dy hY).wr _ (mb_byt _), hs.1, hs.2, by rw [w3, hw]; rfl⟩
  · obtain ⟨w1, w2⟩ := fz_wr hM h0 h1 i0 i1 hl5
    rw [if_pos w2, if_pos w2, w1]
    have hf1 : 0 ≤ lf f 1 := by unfold lf; split <;> omega
    by_cases h2 : lf f 1 = 1
    · right
      rw [h2]
      obtain ⟨a1, a2, a3, a4, a5⟩ := fz_sy1 hgw
      exact ⟨a1, a2, (fz_dn (hD.wr i0 i1 _)).sy, (fz_dy (hY.wr _ (mb_byt _))).sy, a4.trans hpw.2.2.1, a5.trans hpw.2.2.2.1, by rw [a3, hpw.2.2.2.2, hw]; rfl⟩
    · left
      obtain ⟨a1, a2⟩ := fz_sy hgw hf1 h2
      exact ⟨lf (lf f 1) 1, a2, a1, by unfold lf at hf1 ⊢; split <;> omega⟩
/-- The power went while a Cut's master was waiting: the Cut was made, or not. -/
theorem crash_mark (h : LI N c L M es []) (hc : c ≤ 999998) (h0 : L.start ≤ lsn) (he : Ents (L.rd M) lsn fl b L.next) (f0 : 0 ≤ fl) (f1 : fl ≤ L.life) (ll : lastL fl b ≤ L.life) (no : NoE (L.rd M) L.next (lastL fl b)) (hm : MI N M M' ((L.at_ lsn).fl fl)) (keep : List Bool) (tear : Int) :
    ∃ L' M'', opn (M'.on keep tear) L.fr (L.ring + 2) = ⟨some L', 0, M''⟩ ∧ L'.life = L.life + 1 ∧ L'.next = L.next ∧ L'.fr = L.fr ∧ L'.ring = L.ring ∧ M''.wait = [] ∧
      ((LI N (c + 2) L' M'' es [] ∧ L'.start = L.start) ∨ (LI N (c + 2) L' M'' b [] ∧ L'.start = lsn)) := by
  have hc6 : c ≤ 1000000 := by omega
  have hq1 := h.C.q1
  have hq0 := h.C.q0
  have hl0 := h.C.l0
  have hl1 := h.C.l1
  have hx1 := h.C.x1
  have hs0 := h.C.s0
  have hf0 := h.C.f0
  have hr0 := h.C.r0
  have hfn := h.C.fn
  have hn6 := h.C.n6
  have hnr := h.C.nr
  have hz := Ents.le _ _ _ he
  have hfw : L.forced = L.next := h.C.eW
  have hgeo := h.C.geo hc6
  obtain ⟨L1, hL1, a1, a2, a3, a4, a5, a6, a7⟩ : ∃ L1 : LA, L1 = (L.at_ lsn).fl fl ∧ L1.fr = L.fr ∧ L1.ring = L.ring ∧ L1.seq = L.seq ∧ L1.life = L.life ∧ L1.start = lsn ∧ L1.floor = fl ∧ L1.next = L.next := ⟨_, rfl, rfl, rfl, rfl, rfl, rfl, rfl, rfl⟩
  rw [← hL1] at hm
  have hI : L1.mkI = L.fr + (L.seq + 1) % 2 := by rw [← a1, ← a3]; rfl
  have hlen : M'.wait.length = 1 := by rw [hm.w]; rfl
  have hwk : wk M' 0 = (L1.mkI, L1.up.mb) := by unfold wk; rw [hm.w]; rfl
  obtain ⟨hg, hD, ho, hy, hn⟩ := on_gd hm.D keep tear (fun i k hik hk => by omega)
  have hsd : ∀ j : Int, 0 ≤ j → j < N → (sdk M').rdE j = M.rdE j ∧ (sdk M').rdB j = M.rdB j := fun j j0 j1 => by
    have q1 := sdk_see h.C.D hm.D hm.s hm.b j0 j1
    have hwf := h.wf
    have q2 := h.other j0 j1 (fun m m0 m1 => by omega)
    exact ⟨q1.1.trans q2.1.symm, q1.2.trans q2.2.symm⟩
  have hoth : ∀ j : Int, 0 ≤ j → j < N → j ≠ L1.mkI → (M'.on keep tear).rdE j = M.rdE j ∧ (M'.on keep tear).rdB j = M.rdB j := fun j j0 j1 hne => by
    have q1 := ho j j0 j1 (fun i hi => by
      have hi0 : i = 0 := by omega
      rw [hi0, hwk]
      exact fun q => hne q.symm)
    have q2 := hsd j j0 j1
    exact ⟨q1.1.trans q2.1, q1.2.trans q2.2⟩
  have hrd : L.rd (M'.on keep tear) = L.rd M := funext fun m => by
    obtain ⟨p0, p1, p2⟩ := hgeo.pl m
    exact rd_cong (hoth _ p0 p1 (by rw [hI]; omega))
  have hmN := h.mN hc6
  have hYo := on_DY keep tear hm.Y
  by_cases hk : keep.getD 0 false = true
  · -- the mark came
    have hr := hy 0 (by omega) hk
    rw [hwk] at hr
    have hb1 : Bd L1 := ⟨by omega, by omega, by omega, by omega, by omega, by omega, by omega, by omega⟩
    have hma : Mas L1.up (M'.on keep tear) := by
      have k : (L1.up.seq + 1) % 2 = L.seq % 2 := by show (L1.seq + 1 + 1) % 2 = _; omega
      have e2 : L1.up.ms (M'.on keep tear) (L.seq % 2) = L.ms M (L.seq % 2) := by
        have q := hoth (L.fr + L.seq % 2) (by omega) (by omega) (by rw [hI]; omega)
        unfold LA.ms
        rw [show L1.up.fr = L.fr from a1, q.1, q.2]
      refine ⟨?_, by rw [k, e2, hmN.a], by rw [k, e2, hmN.a]; intro _; show L.seq < L1.seq + 1; omega, show 0 < L1.seq + 1 by omega⟩
      show L1.ms (M'.on keep tear) ((L1.seq + 1) % 2) = _
      have hI2 : L1.fr + (L1.seq + 1) % 2 = L1.mkI := rfl
      unfold LA.ms
      rw [hI2, hr.1, if_pos rfl, hr.2, mst_mb _ hb1]
      show (⟨L1.seq + 1, L1.life, L1.start, L1.floor, (L1.seq + 1) % 2 == (L1.seq + 1) % 2, 0⟩ : Mst) = ⟨L1.seq + 1, L1.life, L1.start, L1.floor, true, 0⟩
      rw [beq_self_eq_true]
    have hrd1 : L1.up.rd (M'.on keep tear) = L.rd M := (funext fun m => by
      have e : L1.up.pl m = L.pl m := by unfold LA.pl; show L1.fr + 2 + m % L1.ring = _; rw [a1, a2]
      unfold LA.rd
      rw [e] : L1.up.rd (M'.on keep tear) = L.rd (M'.on keep tear)).trans hrd
    obtain ⟨L', M'', e, li, k1, k2, k3, k4, k5, k6⟩ := open_LI (L := L1.up) (c := c + 1) (z := L.next) (es := b) hg hD hYo hn6 hma (by show 0 ≤ L1.fr; omega) (by show 0 < L1.ring; omega) (by show L1.fr + 2 + L1.ring ≤ _; omega) (by show 0 ≤ L1.seq + 1; omega) (by show L1.seq + 1 ≤ _; omega) (by show 0 ≤ L1.life; omega) (by show L1.life ≤ _; omega) (by show 0 ≤ L1.start; omega) (by show 0 ≤ L1.floor; omega) (by show L1.floor ≤ L1.life; omega) (by omega)
      (by rw [hrd1]; show Ents (L.rd M) L1.start L1.floor b L.next; rw [a5, a6]; exact he) (by show L.next ≤ L1.start + L1.ring; omega) (by omega) (by show lastL L1.floor b ≤ L1.life; rw [a6, a4]; exact ll) (by rw [hrd1]; show NoE _ _ (lastL L1.floor b); rw [a6]; exact no)
      (by rw [hrd1]; intro m m0 mo; show _ ≤ L1.life; rw [a4]; exact Int.le_of_lt (h.lowN hc6 m m0 mo))
    refine ⟨L', M'', ?_, ?_, k3, k4.trans a1, k5.trans a2, k6, .inr ⟨li, k2.trans a5⟩⟩
    · rw [← a1, ← a2]; exact e
    · rw [k1]; show L1.life + 1 = _; rw [a4]
  · -- it didn't
    have hr := hn 0 (by omega) (by cases hq : keep.getD 0 false <;> simp_all)
    rw [hwk] at hr
    have hmm : (L.ms (M'.on keep tear) ((L.seq + 1) % 2)).ok = true → L.ms (M'.on keep tear) ((L.seq + 1) % 2) = L.ms M ((L.seq + 1) % 2) := fun hok => by
      rcases hr with q | q
      · have q2 := hsd L1.mkI (by omega) (by omega)
        refine ms_cong ?_
        rw [← hI]
        exact ⟨q.1.trans q2.1, q.2.trans q2.2⟩
      · unfold LA.ms at hok
        rw [← hI, q, if_neg (by decide), if_pos rfl] at hok
        cases hok
    have hma : Mas L (M'.on keep tear) := by
      refine ⟨?_, ?_, fun hok => ?_, hmN.q⟩
      · rw [ms_cong (hoth (L.fr + L.seq % 2) (by omega) (by omega) (by rw [hI]; omega))]
        exact hmN.a
      · have := rdE_good hg (j := L.fr + (L.seq + 1) % 2) (by omega) (by omega)
        rcases (show (M'.on keep tear).rdE (L.fr + (L.seq + 1) % 2) = 9 ∨ (M'.on keep tear).rdE (L.fr + (L.seq + 1) % 2) = 0 by rw [this]; split; exact .inl rfl; exact .inr rfl) with e | e
        · unfold LA.ms
          rw [if_neg (by rw [e]; decide), if_pos e]
        · unfold LA.ms
          rw [if_pos e]
          rfl
      · have e := hmm hok
        rw [e] at hok ⊢
        exact hmN.o hok
    have hen := h.ents hc6
    have hno := h.noN hc6
    have hla := h.last
    rw [List.append_nil] at hen hno hla
    obtain ⟨L', M'', e, li, k1, k2, k3, k4, k5, k6⟩ := open_LI (L := L) (c := c) (z := L.next) (es := es) hg hD hYo hn6 hma hf0 hr0 hfn hq0 hq1 hl0 hl1 hs0 h.C.o0 h.C.o1 (by omega) (by rw [hrd]; exact hen) hnr hx1 hla (by rw [hrd]; exact hno) (by rw [hrd]; exact fun m m0 mo => Int.le_of_lt (h.lowN hc6 m m0 mo))
    exact ⟨L', M'', e, k1, k3, k4, k5, k6, .inl ⟨li.mono (Nat.le_succ _), k2⟩⟩
end
end Go.Proofs.Ytihmfccpgahmaaa.Wal
