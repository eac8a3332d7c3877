/- The masters on a disk that works: what a mark laid is read again, and a log is opened again. Plain Lean. No conditions beyond those that are named. -/
import Derived.Test.YtihmfccpgahmaaaWalGoodB
namespace Go.Proofs.Ytihmfccpgahmaaa.Wal
open Go Go.RowKit
open Go.Proofs.YtihmfccpgahmaaaW.PrintWords hiding Kept Kept.refl
open Go.Proofs.YtihmfccpgahmaaaW.PrintMore Go.Proofs.YtihmfccpgahmaaaW.PrintLast Go.Proofs.Ytihmfccpgahmaaa.Dk Go.Proofs.Ytihmfccpgahmaaa.Q Go.Proofs.Ytihmfccpgahmaaa.Str Go.Proofs.Ytihmfccpgahmaaa.Leb
set_option linter.unusedVariables false
set_option linter.unusedSimpArgs false
/-- A log's numbers, so that a master sector bears them. -/
structure Bd (L : LA) : Prop where
  q0 : 0 ≤ L.seq
  q1 : L.seq < 9223372036854775807
  l0 : 0 ≤ L.life
  l1 : L.life ≤ 1099511627776
  s0 : 0 ≤ L.start
  s1 : L.start ≤ 4611686018427387903
  o0 : 0 ≤ L.floor
  o1 : L.floor ≤ 1099511627776
theorem rtext_dock (t : List Int) : rtext ⟨dockB ++ t, 0⟩ 4 = (strOfNums [100, 111, 99, 107], ⟨t, 0⟩) := by
  have e := rnum_fwd (most := 4) 4 ([100, 111, 99, 107] ++ t) (by omega) (by omega)
  have e2 : dockB ++ t = leb 4 ++ ([100, 111, 99, 107] ++ t) := by rw [leb_lt (by decide)]; rfl
  unfold rtext
  dsimp only
  rw [show (if (0 : Int) < 4 then (4 : Int) else 0) = 4 from rfl, e2, e]
  dsimp only
  rw [if_pos rfl, if_neg (by rw [List.length_append]; show ¬ ((4 + t.length : Nat) : Int) < 4; omega)]
  rfl
section
variable {M : DA} {N : Nat} {L : LA}
theorem mst_mb (n : Int) (h : Bd L) : mst (wholeF L.up.mb) n = ⟨L.seq + 1, L.life, L.start, L.floor, (L.seq + 1) % 2 == n, 0⟩ := by
  obtain ⟨q0, q1, l0, l1, s0, s1, o0, o1⟩ := h
  obtain ⟨Z, hZ⟩ : ∃ Z, Z = List.replicate (512 - L.up.mb.length) (0 : Int) := ⟨_, rfl⟩
  have e : wholeF L.up.mb = dockB ++ (leb (L.seq + 1).toNat ++ (leb L.life.toNat ++ (leb L.start.toNat ++ (leb L.floor.toNat ++ Z)))) := by
    unfold wholeF
    rw [← hZ]
    unfold LA.mb
    simp only [List.append_assoc]
    rfl
  clear hZ
  have e0 := rtext_dock (leb (L.seq + 1).toNat ++ (leb L.life.toNat ++ (leb L.start.toNat ++ (leb L.floor.toNat ++ Z))))
  have e1 := rnum_fwd (most := 9223372036854775807) (L.seq + 1).toNat (leb L.life.toNat ++ (leb L.start.toNat ++ (leb L.floor.toNat ++ Z))) (by omega) (by omega)
  have e2 := rnum_fwd (most := 1099511627776) L.life.toNat (leb L.start.toNat ++ (leb L.floor.toNat ++ Z)) (by omega) (by omega)
  have e3 := rnum_fwd (most := 4611686018427387903) L.start.toNat (leb L.floor.toNat ++ Z) (by omega) (by omega)
  have e4 := rnum_fwd (most := 1099511627776) L.floor.toNat Z (by omega) (by omega)
  unfold mst
  rw [e, e0]
  dsimp only
  rw [e1]
  dsimp only
  rw [e2]
  dsimp only
  rw [e3]
  dsimp only
  rw [e4]
  dsimp only
  have k1 : (((L.seq + 1).toNat : Nat) : Int) = L.seq + 1 := by omega
  have k2 : ((L.life.toNat : Nat) : Int) = L.life := by omega
  have k3 : ((L.start.toNat : Nat) : Int) = L.start := by omega
  have k4 : ((L.floor.toNat : Nat) : Int) = L.floor := by omega
  have k5 : ((strOfNums [100, 111, 99, 107]).toList == dock.toList) = true := by decide +kernel
  rw [k1, k2, k3, k4, k5]
  simp
theorem ms_cong {M' : DA} {n : Int} (h : M'.rdE (L.fr + n) = M.rdE (L.fr + n) ∧ M'.rdB (L.fr + n) = M.rdB (L.fr + n)) : L.ms M' n = L.ms M n := by
  unfold LA.ms
  rw [h.1, h.2]
/-- The master of this number stands, the other one is elder. -/
structure Mas (L : LA) (M : DA) : Prop where
  a : L.ms M (L.seq % 2) = ⟨L.seq, L.life, L.start, L.floor, true, 0⟩
  e : (L.ms M ((L.seq + 1) % 2)).e = 0
  o : (L.ms M ((L.seq + 1) % 2)).ok = true → (L.ms M ((L.seq + 1) % 2)).seq < L.seq
  q : 0 < L.seq
/-- The master that the next mark leaves is no younger than the number tells. -/
structure Old (L : LA) (M : DA) : Prop where
  e : (L.ms M (L.seq % 2)).e = 0
  o : (L.ms M (L.seq % 2)).ok = true → (L.ms M (L.seq % 2)).seq ≤ L.seq
theorem Mas.old (h : Mas L M) : Old L M := ⟨by rw [h.a], fun _ => by rw [h.a]; exact Int.le_refl _⟩
theorem Mas.frame {M' : DA} (h : Mas L M) (hf : ∀ n : Int, 0 ≤ n → n < 2 → M'.rdE (L.fr + n) = M.rdE (L.fr + n) ∧ M'.rdB (L.fr + n) = M.rdB (L.fr + n)) : Mas L M' := by
  have e1 := ms_cong (hf (L.seq % 2) (by omega) (by omega))
  have e2 := ms_cong (hf ((L.seq + 1) % 2) (by omega) (by omega))
  exact ⟨by rw [e1]; exact h.a, by rw [e2]; exact h.e, by rw [e2]; exact h.o, h.q⟩
theorem mark_good (hM : Gd M N) (hb : Bd L) (h : Old L M) (f0 : 0 ≤ L.fr) (f1 : L.fr + 2 ≤ N) (f2 : L.fr ≤ 65536) :
    L.mkE M = 0 ∧ Gd (L.mkM M) N ∧ Mas L.up (L.mkM M) ∧ (L.mkM M).wait = [] ∧ ∀ j : Int, L.fr + 2 ≤ j → j < N → (L.mkM M).rdE j = M.rdE j ∧ (L.mkM M).rdB j = M.rdB j := by
  have hN : L.up.Nm := ⟨⟨f0, f2⟩, ⟨show 0 ≤ L.seq + 1 by have := hb.q0; omega, show L.seq + 1 < 18446744073709551616 by have := hb.q1; omega⟩, ⟨hb.l0, show L.life < 18446744073709551616 by have := hb.l1; omega⟩, ⟨hb.s0, show L.start < 18446744073709551616 by have := hb.s1; omega⟩, ⟨hb.o0, show L.floor < 18446744073709551616 by have := hb.o1; omega⟩⟩
  have hI : L.mkI = L.fr + (L.seq + 1) % 2 := rfl
  have i0 : 0 ≤ L.mkI := by rw [hI]; omega
  have i1 : L.mkI < N := by rw [hI]; omega
  have hl := mb_len hN
  obtain ⟨m1, m2, m3⟩ := hM.mark hN i0 i1
  have hs := hM.rd_same i0 i1 (l := L.up.mb) (by omega)
  have hgw := hM.wr i0 i1 (l := L.up.mb) (by omega)
  have hrd : ∀ j : Int, 0 ≤ j → j < N → L.mkI ≠ j → (L.mkM M).rdE j = M.rdE j ∧ (L.mkM M).rdB j = M.rdB j := fun j a b c => by
    have q1 := hgw.sy_rd a b
    have q2 := hM.rd_other i0 i1 (l := L.up.mb) (by omega) a b c
    rw [m2]
    exact ⟨q1.1.trans q2.1, q1.2.trans q2.2⟩
  have hsy := hgw.sy_rd i0 i1
  refine ⟨m1, m3, ⟨?_, ?_, ?_, show 0 < L.seq + 1 by have := hb.q0; omega⟩, by rw [m2]; exact hgw.sy_eq.2.2.2.2.1, fun j a b => hrd j (by omega) b (by rw [hI]; omega)⟩
  · show L.ms (L.mkM M) ((L.seq + 1) % 2) = _
    unfold LA.ms
    rw [← hI, m2, hsy.1, hs.1, if_pos rfl, hsy.2, hs.2, mst_mb _ hb]
    show (⟨L.seq + 1, L.life, L.start, L.floor, (L.seq + 1) % 2 == (L.seq + 1) % 2, 0⟩ : Mst) = ⟨L.seq + 1, L.life, L.start, L.floor, true, 0⟩
    rw [beq_self_eq_true]
  all_goals
    have k : (L.up.seq + 1) % 2 = L.seq % 2 := by show (L.seq + 1 + 1) % 2 = _; omega
    have e2 : L.ms (L.mkM M) (L.seq % 2) = L.ms M (L.seq % 2) := ms_cong (hrd _ (by omega) (by omega) (by rw [hI]; omega))
    rw [k]
  · show (L.ms (L.mkM M) (L.seq % 2)).e = 0
    rw [e2]; exact h.e
  · show (L.ms (L.mkM M) (L.seq % 2)).ok = true → (L.ms (L.mkM M) (L.seq % 2)).seq < L.seq + 1
    rw [e2]; intro c; have := h.o c; omega
/-- A log as Open has it once the masters are read. -/
def LA.op (L : LA) : LA := ⟨L.fr, L.ring, L.seq, L.life, L.start, L.floor, 0, 0⟩
theorem msK_mas (h : Mas L M) : let Z : LA := ⟨L.fr, L.ring, 0, 0, 0, 0, 0, 0⟩
    Z.msK M 2 = L.op ∧ ((Z.msK M 0).ms M 0).e = 0 ∧ ((Z.msK M 1).ms M 1).e = 0 := by
  intro Z
  have hq := h.q
  by_cases hp : L.seq % 2 = 0
  · have ha : Z.ms M 0 = ⟨L.seq, L.life, L.start, L.floor, true, 0⟩ := by rw [← h.a, hp]; rfl
    have hp1 : (L.seq + 1) % 2 = 1 := by omega
    have he := h.e
    have ho := h.o
    rw [hp1] at he ho
    have k1 : Z.msK M 1 = L.op := by
      show Z.take (Z.ms M 0) = _
      rw [ha]
      exact if_pos ⟨rfl, hq⟩
    have hm : L.op.ms M 1 = L.ms M 1 := rfl
    refine ⟨?_, ?_, by rw [k1, hm]; exact he⟩
    · show (Z.msK M 1).take ((Z.msK M 1).ms M 1) = _
      rw [k1, hm]
      exact if_neg (fun c => by have := ho c.1; have c2 : L.seq < (L.ms M 1).seq := c.2; omega)
    · show (Z.ms M 0).e = 0
      rw [ha]
  · have hp0 : L.seq % 2 = 1 := by omega
    have ha : L.ms M 1 = ⟨L.seq, L.life, L.start, L.floor, true, 0⟩ := by rw [← h.a, hp0]
    have hp1 : (L.seq + 1) % 2 = 0 := by omega
    have he := h.e
    have ho := h.o
    rw [hp1] at he ho
    have hz : Z.ms M 0 = L.ms M 0 := rfl
    have k1 : ∃ s a b c, Z.msK M 1 = ⟨L.fr, L.ring, s, a, b, c, 0, 0⟩ ∧ s < L.seq := by
      show ∃ s a b c, Z.take (Z.ms M 0) = _ ∧ _
      rw [hz]
      by_cases hc : (L.ms M 0).ok = true ∧ Z.seq < (L.ms M 0).seq
      · exact ⟨(L.ms M 0).seq, (L.ms M 0).life, (L.ms M 0).start, (L.ms M 0).floor, if_pos hc, ho hc.1⟩
      · exact ⟨0, 0, 0, 0, if_neg hc, hq⟩
    obtain ⟨s, a, b, c, k1, k2⟩ := k1
    have hm : (⟨L.fr, L.ring, s, a, b, c, 0, 0⟩ : LA).ms M 1 = ⟨L.seq, L.life, L.start, L.floor, true, 0⟩ := by rw [← ha]; rfl
    refine ⟨?_, ?_, by rw [k1, hm]⟩
    · show (Z.msK M 1).take ((Z.msK M 1).ms M 1) = _
      rw [k1, hm]
      exact if_pos ⟨rfl, k2⟩
    · show (Z.ms M 0).e = 0
      rw [hz]; exact he
/-- Where no part of a number and life stands no entry begins. -/
theorem entry_no {z lf : Int} (h : z < L.start + L.ring → (L.rd M z).e = 0 ∧ ((L.rd M z).ok = false ∨ (L.rd M z).life < lf)) : (L.entry M z lf).ok = false ∧ (L.entry M z lf).e = 0 := by
  unfold LA.entry
  by_cases hz : z < L.start + L.ring
  · obtain ⟨m, hm⟩ : ∃ m, (L.ring - (z - L.start)).toNat = m + 1 := ⟨(L.ring - (z - L.start)).toNat - 1, by omega⟩
    obtain ⟨h1, h2⟩ := h hz
    rw [hm, LA.ent_succ, if_pos (by
      unfold Part.bad
      rcases h2 with h2 | h2
      · exact .inr (.inl h2)
      · exact .inr (.inr (.inl h2)))]
    exact ⟨rfl, h1⟩
  · rw [show (L.ring - (z - L.start)).toNat = 0 by omega]
    exact ⟨rfl, rfl⟩
/-- The log that Open gives, ahead of its mark. -/
def LA.re (L : LA) (z lf : Int) : LA := ⟨L.fr, L.ring, L.seq, lf + 1, L.start, if z = L.start then lf + 1 else L.floor, z, z⟩
theorem opn_mas (hM : Gd M N) (h6 : N ≤ 65536) (h : Mas L M) (hb : Bd L) (f0 : 0 ≤ L.fr) (r0 : 0 < L.ring) (fn : L.fr + 2 + L.ring ≤ N) {es : List (Int × List Int)} {z : Int} (he : Ents (L.rd M) L.start L.floor es z) (hz : z ≤ L.start + L.ring)
    (hs : z < L.start + L.ring → (L.rd M z).e = 0 ∧ ((L.rd M z).ok = false ∨ (L.rd M z).life < lastL L.floor es)) (hl : mxI L.life (lastL L.floor es) < 1099511627776) :
    opn M L.fr (L.ring + 2) = ⟨some (L.re z (mxI L.life (lastL L.floor es))).up, 0, (L.re z (mxI L.life (lastL L.floor es))).mkM M⟩ ∧ Gd ((L.re z (mxI L.life (lastL L.floor es))).mkM M) N ∧ Mas (L.re z (mxI L.life (lastL L.floor es))).up ((L.re z (mxI L.life (lastL L.floor es))).mkM M) ∧
      ((L.re z (mxI L.life (lastL L.floor es))).mkM M).wait = [] ∧ ∀ j : Int, L.fr + 2 ≤ j → j < N → ((L.re z (mxI L.life (lastL L.floor es))).mkM M).rdE j = M.rdE j ∧ ((L.re z (mxI L.life (lastL L.floor es))).mkM M).rdB j = M.rdB j := by
  obtain ⟨k2, k0, k1⟩ := msK_mas h
  have hlen := he.len
  have hsc : L.op.scan M (L.ring + 1).toNat L.op.start L.op.floor = ⟨z, lastL L.floor es, 0⟩ := scan_ents (L := L.op) hz es _ _ _ he (by omega) (entry_no (L := L.op) hs)
  have hm0 : 0 ≤ mxI L.life (lastL L.floor es) := by unfold mxI; have := hb.l0; split <;> omega
  obtain ⟨m1, m2, m3, m4, m5⟩ := mark_good (L := L.re z (mxI L.life (lastL L.floor es))) hM ⟨hb.q0, hb.q1, by show 0 ≤ mxI _ _ + 1; omega, by show mxI _ _ + 1 ≤ _; omega, hb.s0, hb.s1, by show 0 ≤ (if z = L.start then _ else _); have := hb.o0; split <;> omega, by show (if z = L.start then _ else _) ≤ _; have := hb.o1; split <;> omega⟩ ⟨h.old.e, h.old.o⟩ f0 (by show L.fr + 2 ≤ _; omega) (by show L.fr ≤ _; omega)
  refine ⟨?_, m2, m3, m4, m5⟩
  unfold opn
  rw [if_neg (by rw [hM.n]; omega), show L.ring + 2 - 2 = L.ring by omega]
  unfold LA.opn1
  rw [if_neg (by rw [k0]; decide), if_neg (by rw [k1]; decide), k2]
  show L.op.opn2 M (L.op.scan M (L.ring + 1).toNat L.op.start L.op.floor) = _
  rw [hsc]
  unfold LA.opn2
  rw [if_neg (fun c => c rfl)]
  show (if (1099511627776 : Int) ≤ mxI L.life (lastL L.floor es) then _ else _) = _
  rw [if_neg (by omega)]
  show (⟨some (L.re z (mxI L.life (lastL L.floor es))).up, (L.re z (mxI L.life (lastL L.floor es))).mkE M, (L.re z (mxI L.life (lastL L.floor es))).mkM M⟩ : OpR) = _
  rw [m1]
/-- Force, on a disk that works. -/
theorem force_good (hM : Gd M N) : (L.force M).e = 0 ∧ (L.force M).L = { L with forced := L.next } ∧ Gd (L.force M).M N ∧ ∀ j : Int, 0 ≤ j → j < N → (L.force M).M.rdE j = M.rdE j ∧ (L.force M).M.rdB j = M.rdB j := by
  unfold LA.force
  by_cases h : L.forced = L.next
  · rw [if_pos h]
    exact ⟨rfl, congrArg (fun x => ({ L with forced := x } : LA)) h, hM, fun _ _ _ => ⟨rfl, rfl⟩⟩
  · rw [if_neg h, if_pos hM.sy_eq.2.2.2.2.2]
    exact ⟨rfl, rfl, hM.sy, fun j a b => hM.sy_rd a b⟩
/-- Cut at the end: nothing is left. -/
theorem cut_end (hM : Gd M N) (hb : Bd L) (h : Mas L M) (f0 : 0 ≤ L.fr) (f1 : L.fr + 2 ≤ N) (f2 : L.fr ≤ 65536) (hs : L.start < L.next) (hx : L.next ≤ 4611686018427387903) :
    ∃ M', L.cut M L.next = ⟨0, (({ L with forced := L.next } : LA).at_ L.next |>.fl L.life).up, M'⟩ ∧ Gd M' N ∧ Mas (({ L with forced := L.next } : LA).at_ L.next |>.fl L.life).up M' ∧ M'.wait = [] ∧ ∀ j : Int, L.fr + 2 ≤ j → j < N → M'.rdE j = M.rdE j ∧ M'.rdB j = M.rdB j := by
  obtain ⟨e, l, g, r⟩ := force_good (L := L) hM
  have hm := h.frame (M' := (L.force M).M) (fun n a b => r _ (by omega) (by omega))
  have hs0 := hb.s0
  obtain ⟨m1, m2, m3, m4, m5⟩ := mark_good (L := ({ L with forced := L.next } : LA).at_ L.next |>.fl L.life) g ⟨hb.q0, hb.q1, hb.l0, hb.l1, show 0 ≤ L.next by omega, hx, hb.l0, hb.l1⟩ ⟨hm.old.e, hm.old.o⟩ f0 f1 f2
  refine ⟨_, ?_, m2, m3, m4, fun j a b => ?_⟩
  · unfold LA.cut
    rw [if_neg (by omega), if_neg (fun c => c e), l]
    unfold LA.cut2
    rw [if_neg (by show ¬ L.start = L.next; omega), if_neg (by show ¬ L.next < L.next; omega)]
    show (⟨LA.mkE _ (L.force M).M, _, _⟩ : CutR) = _
    rw [m1]
  · have q := m5 j a b
    have q2 := r j (by omega) b
    exact ⟨q.1.trans q2.1, q.2.trans q2.2⟩
/-- Cut at the start: nothing turns but what is forced. -/
theorem cut_start (hM : Gd M N) (hs : L.start ≤ L.next) : L.cut M L.start = ⟨0, { L with forced := L.next }, (L.force M).M⟩ := by
  obtain ⟨e, l, g, r⟩ := force_good (L := L) hM
  unfold LA.cut
  rw [if_neg (by omega), if_neg (fun c => c e), l]
  unfold LA.cut2
  rw [if_pos rfl]
  rfl
end
end Go.Proofs.Ytihmfccpgahmaaa.Wal
