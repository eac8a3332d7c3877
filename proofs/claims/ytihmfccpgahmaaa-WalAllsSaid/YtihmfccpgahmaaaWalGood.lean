/- A log on a disk that works: what is written is read again; a fresh disk opens. Plain Lean. No conditions beyond those that are named. -/
import Derived.Test.YtihmfccpgahmaaaWalHead
namespace Go.Proofs.Ytihmfccpgahmaaa.Wal
open Go Go.RowKit
open Go.Proofs.YtihmfccpgahmaaaW.PrintWords hiding Kept Kept.refl
open Go.Proofs.YtihmfccpgahmaaaW.PrintMore Go.Proofs.YtihmfccpgahmaaaW.PrintLast Go.Proofs.Ytihmfccpgahmaaa.Dk Go.Proofs.Ytihmfccpgahmaaa.Q Go.Proofs.Ytihmfccpgahmaaa.Str Go.Proofs.Ytihmfccpgahmaaa.Leb
set_option linter.unusedVariables false
set_option linter.unusedSimpArgs false
/-- A disk of N sectors whose power is on. -/
structure Gd (M : DA) (N : Nat) : Prop where
  n : M.now.length = N
  t : M.torn.length = N
  d : M.down = false
  f : M.fuse = 0
section
variable {M : DA} {N : Nat} {L : LA}
theorem Gd.step (h : Gd M N) : M.step = { M with work := wrap64 (M.work + 1) } := by
  unfold DA.step
  rw [if_neg (by rw [h.f]; decide), if_neg (by rw [h.f]; decide)]
theorem Gd.ask (h : Gd M N) {i : Int} (h0 : 0 ≤ i) (h1 : i < N) : M.ask i = 0 := by
  unfold DA.ask
  rw [h.n, if_neg (by omega), if_neg (by rw [h.d]; decide)]
theorem Gd.wrE (h : Gd M N) {i : Int} (h0 : 0 ≤ i) (h1 : i < N) {n : Nat} (hn : n ≤ 512) : M.wrE i n = 0 := by
  unfold DA.wrE
  rw [h.ask h0 h1, if_neg (by omega), if_pos rfl]
  unfold DA.stepE
  rw [if_neg (by rw [h.f]; decide)]
theorem Gd.wr_eq (h : Gd M N) {i : Int} (h0 : 0 ≤ i) (h1 : i < N) {l : List Int} (hl : l.length ≤ 512) : M.wr i l = { M with work := wrap64 (M.work + 1), now := M.now.set i.toNat l, torn := M.torn.set i.toNat false, wait := M.wait ++ [(i, l)] } := by
  unfold DA.wr
  rw [if_pos ⟨h.ask h0 h1, hl⟩, h.step]
  rfl
theorem Gd.wr (h : Gd M N) {i : Int} (h0 : 0 ≤ i) (h1 : i < N) {l : List Int} (hl : l.length ≤ 512) : Gd (M.wr i l) N := by
  rw [h.wr_eq h0 h1 hl]
  exact ⟨by show (M.now.set _ _).length = N; rw [List.length_set]; exact h.n, by show (M.torn.set _ _).length = N; rw [List.length_set]; exact h.t, h.d, h.f⟩
/-- What a sector says: why it can't be read, its bytes. -/
theorem rdE_good (h : Gd M N) {j : Int} (h0 : 0 ≤ j) (h1 : j < N) : M.rdE j = if rdOf false M.torn j = true then 9 else 0 := by
  unfold DA.rdE
  rw [if_pos (h.ask h0 h1)]
theorem rd_set_eq {α : Type} (d : α) (l : List α) (x : α) (i : Int) (h0 : 0 ≤ i) (h1 : i < l.length) : rdOf d (l.set i.toNat x) i = x := by
  unfold rdOf
  rw [List.getD_eq_getElem?_getD, List.getElem?_set_self (by omega)]; rfl
theorem rd_set_ne' {α : Type} (d : α) (l : List α) (x : α) (i j : Int) (h0 : 0 ≤ i) (h1 : 0 ≤ j) (h : i ≠ j) : rdOf d (l.set i.toNat x) j = rdOf d l j := by
  unfold rdOf
  rw [List.getD_eq_getElem?_getD, List.getElem?_set_ne (by omega), List.getD_eq_getElem?_getD]
theorem Gd.rd_same (h : Gd M N) {i : Int} (h0 : 0 ≤ i) (h1 : i < N) {l : List Int} (hl : l.length ≤ 512) : (M.wr i l).rdE i = 0 ∧ (M.wr i l).rdB i = wholeF l := by
  have hg := h.wr h0 h1 hl
  have e : (M.wr i l).rdE i = 0 := by
    rw [rdE_good hg h0 h1, h.wr_eq h0 h1 hl]
    show (if rdOf false (M.torn.set i.toNat false) i = true then (9 : Int) else 0) = 0
    rw [rd_set_eq _ _ _ _ h0 (by rw [h.t]; exact h1)]; rfl
  refine ⟨e, ?_⟩
  unfold DA.rdB
  rw [if_pos e, h.wr_eq h0 h1 hl]
  show wholeF (rdOf [] (M.now.set i.toNat l) i) = wholeF l
  rw [rd_set_eq _ _ _ _ h0 (by rw [h.n]; exact h1)]
theorem Gd.rd_other (h : Gd M N) {i j : Int} (h0 : 0 ≤ i) (h1 : i < N) {l : List Int} (hl : l.length ≤ 512) (h2 : 0 ≤ j) (h3 : j < N) (hne : i ≠ j) : (M.wr i l).rdE j = M.rdE j ∧ (M.wr i l).rdB j = M.rdB j := by
  have hg := h.wr h0 h1 hl
  have e : (M.wr i l).rdE j = M.rdE j := by
    rw [rdE_good hg h2 h3, rdE_good h h2 h3, h.wr_eq h0 h1 hl]
    show (if rdOf false (M.torn.set i.toNat false) j = true then (9 : Int) else 0) = _
    rw [rd_set_ne' _ _ _ _ _ h0 h2 hne]
  refine ⟨e, ?_⟩
  unfold DA.rdB
  rw [e, h.wr_eq h0 h1 hl]
  show (if _ then wholeF (rdOf [] (M.now.set i.toNat l) j) else []) = _
  rw [rd_set_ne' _ _ _ _ _ h0 h2 hne]
theorem fold_lay (l : List (Int × List Int)) : ∀ M : DA, (l.foldl DA.lay M).now = M.now ∧ (l.foldl DA.lay M).torn = M.torn ∧ (l.foldl DA.lay M).down = M.down ∧ (l.foldl DA.lay M).fuse = M.fuse := by
  induction l with
  | nil => intro M; exact ⟨rfl, rfl, rfl, rfl⟩
  | cons x l ih => intro M; exact ih (M.lay x)
theorem Gd.sy_eq (h : Gd M N) : M.sy.now = M.now ∧ M.sy.torn = M.torn ∧ M.sy.down = false ∧ M.sy.fuse = 0 ∧ M.sy.wait = [] ∧ M.syE = 0 := by
  have hs := h.step
  unfold DA.sy DA.syE DA.stepE
  rw [if_neg (by rw [h.d]; decide), if_neg (by rw [h.f]; decide), if_neg (by rw [h.d]; decide), if_neg (by rw [h.f]; decide), hs]
  obtain ⟨a, b, c, d⟩ := fold_lay M.wait { M with work := wrap64 (M.work + 1) }
  exact ⟨a, b, c.trans h.d, d.trans h.f, rfl, rfl⟩
theorem Gd.sy (h : Gd M N) : Gd M.sy N := by
  obtain ⟨a, b, c, d, _, _⟩ := h.sy_eq
  exact ⟨by rw [a]; exact h.n, by rw [b]; exact h.t, c, d⟩
theorem Gd.sy_rd (h : Gd M N) {j : Int} (h0 : 0 ≤ j) (h1 : j < N) : M.sy.rdE j = M.rdE j ∧ M.sy.rdB j = M.rdB j := by
  obtain ⟨a, b, c, d, _, _⟩ := h.sy_eq
  have e : M.sy.rdE j = M.rdE j := by rw [rdE_good h.sy h0 h1, rdE_good h h0 h1, b]
  refine ⟨e, ?_⟩
  unfold DA.rdB
  rw [e, a]
theorem Gd.mark (h : Gd M N) (hk : L.up.Nm) (h0 : 0 ≤ L.mkI) (h1 : L.mkI < N) : L.mkE M = 0 ∧ L.mkM M = (M.wr L.mkI L.up.mb).sy ∧ Gd (L.mkM M) N := by
  have hl := mb_len hk
  have hw := h.wrE h0 h1 (n := L.up.mb.length) (by omega)
  have hg := h.wr h0 h1 (l := L.up.mb) (by omega)
  unfold LA.mkE LA.mkM
  rw [if_pos hw, if_pos hw]
  exact ⟨hg.sy_eq.2.2.2.2.2, rfl, hg.sy⟩
/-- Noughts say nothing. -/
def zeros : List Int := List.replicate 512 0
set_option maxRecDepth 100000 in
theorem ms_zeros (n : Int) : (mst zeros n).ok = false := by
  have h : ((rtext ⟨zeros, 0⟩ 4).1.toList == dock.toList) = false := by decide +kernel
  unfold mst
  dsimp only
  rw [h, Bool.false_and, Bool.and_false]
set_option maxRecDepth 100000 in
theorem prt_zeros (n : Int) (hn : 0 ≤ n) : (prt zeros n).ok = false ∧ (prt zeros n).e = 0 := by
  refine ⟨?_, rfl⟩
  have h : (rnum ⟨zeros, 0⟩ 9223372036854775807).1 = 0 := by decide +kernel
  unfold prt
  dsimp only
  rw [h, Bool.and_eq_false_iff]
  right
  rw [beq_eq_false_iff_ne]; omega
theorem opn_fresh (h : Gd M N) (h6 : N ≤ 65536) {fr n : Int} (h1 : 2 < n) (h2 : 0 ≤ fr) (h3 : n ≤ (N : Int) - fr) (hz : ∀ j : Int, fr ≤ j → j < fr + n → M.rdE j = 0 ∧ M.rdB j = zeros) :
    opn M fr n = ⟨some ⟨fr, n - 2, 1, 1, 0, 1, 0, 0⟩, 0, (M.wr (fr + 1) (⟨fr, n - 2, 1, 1, 0, 1, 0, 0⟩ : LA).mb).sy⟩ := by
  unfold opn
  rw [if_neg (by rw [h.n]; omega)]
  have hm : ∀ k : Int, 0 ≤ k → k < 2 → ((⟨fr, n - 2, 0, 0, 0, 0, 0, 0⟩ : LA).ms M k).ok = false ∧ ((⟨fr, n - 2, 0, 0, 0, 0, 0, 0⟩ : LA).ms M k).e = 0 := by
    intro k a b
    obtain ⟨q1, q2⟩ := hz (fr + k) (by omega) (by omega)
    have e : (⟨fr, n - 2, 0, 0, 0, 0, 0, 0⟩ : LA).ms M k = mst zeros k := by unfold LA.ms; rw [if_pos q1, q2]
    rw [e]
    exact ⟨ms_zeros k, rfl⟩
  have t0 : (⟨fr, n - 2, 0, 0, 0, 0, 0, 0⟩ : LA).take ((⟨fr, n - 2, 0, 0, 0, 0, 0, 0⟩ : LA).ms M 0) = ⟨fr, n - 2, 0, 0, 0, 0, 0, 0⟩ := if_neg (fun hc => by rw [(hm 0 (by omega) (by omega)).1] at hc; cases hc.1)
  have t1 : (⟨fr, n - 2, 0, 0, 0, 0, 0, 0⟩ : LA).take ((⟨fr, n - 2, 0, 0, 0, 0, 0, 0⟩ : LA).ms M 1) = ⟨fr, n - 2, 0, 0, 0, 0, 0, 0⟩ := if_neg (fun hc => by rw [(hm 1 (by omega) (by omega)).1] at hc; cases hc.1)
  have k1 : (⟨fr, n - 2, 0, 0, 0, 0, 0, 0⟩ : LA).msK M 1 = ⟨fr, n - 2, 0, 0, 0, 0, 0, 0⟩ := t0
  have k2 : (⟨fr, n - 2, 0, 0, 0, 0, 0, 0⟩ : LA).msK M 2 = ⟨fr, n - 2, 0, 0, 0, 0, 0, 0⟩ := by
    show ((⟨fr, n - 2, 0, 0, 0, 0, 0, 0⟩ : LA).msK M 1).take (((⟨fr, n - 2, 0, 0, 0, 0, 0, 0⟩ : LA).msK M 1).ms M 1) = _
    rw [k1]; exact t1
  have hrd : (⟨fr, n - 2, 0, 0, 0, 0, 0, 0⟩ : LA).rd M 0 = prt zeros 0 := by
    have e : (⟨fr, n - 2, 0, 0, 0, 0, 0, 0⟩ : LA).pl 0 = fr + 2 := by unfold LA.pl; simp
    obtain ⟨q1, q2⟩ := hz (fr + 2) (by omega) (by omega)
    unfold LA.rd
    rw [e, if_pos q1, q2]
  have hent : (⟨fr, n - 2, 0, 0, 0, 0, 0, 0⟩ : LA).entry M 0 0 = Ent.no 0 := by
    unfold LA.entry
    obtain ⟨m, hm2⟩ : ∃ m, ((n - 2) - (0 - (0 : Int))).toNat = m + 1 := ⟨(n - 3).toNat, by omega⟩
    show LA.ent _ M 0 ((n - 2) - (0 - 0)).toNat 0 0 [] = _
    rw [hm2, LA.ent_succ, hrd, if_pos (.inr (.inl (prt_zeros 0 (by omega)).1))]
    rfl
  have hscan : (⟨fr, n - 2, 0, 0, 0, 0, 0, 0⟩ : LA).scan M ((n - 2) + 1).toNat 0 0 = ⟨0, 0, 0⟩ := by
    obtain ⟨m, hm2⟩ : ∃ m, ((n - 2) + 1).toNat = m + 1 := ⟨(n - 2).toNat, by omega⟩
    rw [hm2, scan_succ, hent]
    rfl
  unfold LA.opn1
  rw [if_neg (by show ¬ ((⟨fr, n - 2, 0, 0, 0, 0, 0, 0⟩ : LA).ms M 0).e ≠ 0; rw [(hm 0 (by omega) (by omega)).2]; decide), k1, if_neg (by rw [(hm 1 (by omega) (by omega)).2]; decide), k2, hscan]
  have hfin : (⟨fr, n - 2, 0, 0, 0, 0, 0, 0⟩ : LA).fin ⟨0, 0, 0⟩ 0 = ⟨fr, n - 2, 0, 1, 0, 1, 0, 0⟩ := rfl
  unfold LA.opn2
  rw [if_neg (by decide)]
  show (if (1099511627776 : Int) ≤ mxI 0 0 then _ else _) = _
  rw [show mxI 0 0 = 0 from rfl, if_neg (by decide), hfin]
  have hN : (⟨fr, n - 2, 0, 1, 0, 1, 0, 0⟩ : LA).up.Nm := ⟨⟨h2, by show fr ≤ 65536; omega⟩, ⟨show (0 : Int) ≤ 1 from by decide, show (1 : Int) < 18446744073709551616 from by decide⟩, ⟨show (0 : Int) ≤ 1 from by decide, show (1 : Int) < 18446744073709551616 from by decide⟩, ⟨show (0 : Int) ≤ 0 from by decide, show (0 : Int) < 18446744073709551616 from by decide⟩, ⟨show (0 : Int) ≤ 1 from by decide, show (1 : Int) < 18446744073709551616 from by decide⟩⟩
  have hI : (⟨fr, n - 2, 0, 1, 0, 1, 0, 0⟩ : LA).mkI = fr + 1 := rfl
  obtain ⟨a, b, _⟩ := h.mark hN (by rw [hI]; omega) (by rw [hI]; omega)
  rw [a, b, hI]
  rfl
theorem new_gd (n : Int) (h0 : 0 ≤ n) (h1 : n ≤ 65536) : Gd (DA.new (newN n).toNat) n.toNat ∧ ∀ j : Int, 0 ≤ j → j < n → (DA.new (newN n).toNat).rdE j = 0 ∧ (DA.new (newN n).toNat).rdB j = zeros := by
  have e : (newN n).toNat = n.toNat := by unfold newN; repeat' split <;> omega
  rw [e]
  have hg : Gd (DA.new n.toNat) n.toNat := ⟨by unfold DA.new; simp, by unfold DA.new; simp, rfl, rfl⟩
  refine ⟨hg, fun j a b => ?_⟩
  have h9 : rdOf false (DA.new n.toNat).torn j = false := by
    unfold rdOf DA.new
    rw [List.getD_eq_getElem?_getD, List.getElem?_replicate]; split <;> rfl
  have e2 : (DA.new n.toNat).rdE j = 0 := by rw [rdE_good hg a (by omega), h9]; rfl
  refine ⟨e2, ?_⟩
  unfold DA.rdB
  rw [if_pos e2]
  have h8 : rdOf [] (DA.new n.toNat).now j = [] := by
    unfold rdOf DA.new
    rw [List.getD_eq_getElem?_getD, List.getElem?_replicate]; split <;> rfl
  rw [h8]
  rfl
end
end Go.Proofs.Ytihmfccpgahmaaa.Wal
