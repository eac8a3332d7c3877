/- wal.Open, walked: the log that lies on a disk. Conditions: all on the disk is bytes. -/
import Derived.Test.YtihmfccpgahmaaaWalEnt
namespace Go.Proofs.Ytihmfccpgahmaaa.Wal
open Go Go.RowKit
open Go.Proofs.YtihmfccpgahmaaaW.PrintWords hiding Kept Kept.refl
open Go.Proofs.YtihmfccpgahmaaaW.PrintMore Go.Proofs.YtihmfccpgahmaaaW.PrintLast Go.Proofs.Ytihmfccpgahmaaa.Dk Go.Proofs.Ytihmfccpgahmaaa.Q Go.Proofs.Ytihmfccpgahmaaa.Str Go.Proofs.Ytihmfccpgahmaaa.Leb
set_option linter.unusedVariables false
set_option linter.unusedSimpArgs false
def LA.take (L : LA) (m : Mst) : LA := if m.ok = true ∧ L.seq < m.seq then { L with seq := m.seq, life := m.life, start := m.start, floor := m.floor } else L
def LA.msK (L : LA) (M : DA) : Nat → LA
 | 0 => L
 | k + 1 => (L.msK M k).take ((L.msK M k).ms M k)
structure Scan where
 next : Int
 life : Int
 e : Int
/-- To the end of what is whole. -/
def LA.scan (L : LA) (M : DA) : Nat → Int → Int → Scan
 | 0, nx, lf => ⟨nx, lf, 0⟩
 | k + 1, nx, lf => if (L.entry M nx lf).e ≠ 0 then ⟨nx, lf, (L.entry M nx lf).e⟩ else if (L.entry M nx lf).ok = true then L.scan M k (L.entry M nx lf).next (L.entry M nx lf).life else ⟨nx, lf, 0⟩
structure OpR where
 L : Option LA
 e : Int
 M : DA
def LA.fin (L : LA) (s : Scan) (lf : Int) : LA := { L with next := s.next, life := lf + 1, floor := if s.next = L.start then lf + 1 else L.floor, forced := s.next }
def mxI (a b : Int) : Int := if a < b then b else a
def LA.opn2 (L : LA) (M : DA) (s : Scan) : OpR :=
 if s.e ≠ 0 then ⟨none, s.e, M⟩ else if 1099511627776 ≤ mxI L.life s.life then ⟨none, 3, M⟩
 else ⟨some (L.fin s (mxI L.life s.life)).up, (L.fin s (mxI L.life s.life)).mkE M, (L.fin s (mxI L.life s.life)).mkM M⟩
def LA.opn1 (L : LA) (M : DA) : OpR :=
 if ((L.msK M 0).ms M 0).e ≠ 0 then ⟨none, ((L.msK M 0).ms M 0).e, M⟩ else if ((L.msK M 1).ms M 1).e ≠ 0 then ⟨none, ((L.msK M 1).ms M 1).e, M⟩
 else (L.msK M 2).opn2 M ((L.msK M 2).scan M (L.ring + 1).toNat (L.msK M 2).start (L.msK M 2).floor)
def opn (M : DA) (fr n : Int) : OpR := if n ≤ 2 ∨ fr < 0 ∨ (M.now.length : Int) < fr ∨ (M.now.length : Int) - fr < n then ⟨none, 1, M⟩ else (⟨fr, n - 2, 0, 0, 0, 0, 0, 0⟩ : LA).opn1 M
/-- What came so far of a master. -/
def mid (L : LA) (m : Mst) (b0 b1 b2 b3 : Bool) : LA := { L with seq := cond b0 m.seq L.seq, life := cond b1 m.life L.life, start := cond b2 m.start L.start, floor := cond b3 m.floor L.floor }
section
variable {w0 w wa W : World} {p g : Nat} {S : Nat → Prop} {L : LA} {M : DA} {m : Mst} {b0 b1 b2 b3 : Bool}
theorem mid_cell0 (h : Lg w0 w p g S (mid L m b0 b1 b2 b3) M) : ∃ v, w.cell? ⟨p, 3, none⟩ = some (.int .u64 v) := ⟨_, h.cell 3 (.int .u64 _) rfl⟩
theorem mid_cell1 (h : Lg w0 w p g S (mid L m b0 b1 b2 b3) M) : ∃ v, w.cell? ⟨p, 4, none⟩ = some (.int .u64 v) := ⟨_, h.cell 4 (.int .u64 _) rfl⟩
theorem mid_cell2 (h : Lg w0 w p g S (mid L m b0 b1 b2 b3) M) : ∃ v, w.cell? ⟨p, 5, none⟩ = some (.int .u64 v) := ⟨_, h.cell 5 (.int .u64 _) rfl⟩
theorem mid_cell3 (h : Lg w0 w p g S (mid L m b0 b1 b2 b3) M) : ∃ v, w.cell? ⟨p, 6, none⟩ = some (.int .u64 v) := ⟨_, h.cell 6 (.int .u64 _) rfl⟩
theorem mid_set0 (h : Lg w0 w p g S (mid L m false b1 b2 b3) M) : Lg w0 (w.setCell ⟨p, 3, none⟩ (.int .u64 m.seq)) p g S (mid L m true b1 b2 b3) M := h.setw rfl
theorem mid_set1 (h : Lg w0 w p g S (mid L m b0 false b2 b3) M) : Lg w0 (w.setCell ⟨p, 4, none⟩ (.int .u64 m.life)) p g S (mid L m b0 true b2 b3) M := h.setw rfl
theorem mid_set2 (h : Lg w0 w p g S (mid L m b0 b1 false b3) M) : Lg w0 (w.setCell ⟨p, 5, none⟩ (.int .u64 m.start)) p g S (mid L m b0 b1 true b3) M := h.setw rfl
theorem mid_set3 (h : Lg w0 w p g S (mid L m b0 b1 b2 false) M) : Lg w0 (w.setCell ⟨p, 6, none⟩ (.int .u64 m.floor)) p g S (mid L m b0 b1 b2 true) M := h.setw rfl
theorem ent_next (x : Int) (lsn : Int) (k : Nat) : ∀ (n life : Int) (out : List Int), ({ L with next := x } : LA).ent M lsn k n life out = L.ent M lsn k n life out := by
 induction k with
 | zero => intro n life out; rfl
 | succ k ih =>
  intro n life out
  rw [LA.ent_succ, LA.ent_succ, show ({ L with next := x } : LA).rd M n = L.rd M n from rfl, ih]
theorem entry_next (x lsn life : Int) : ({ L with next := x } : LA).entry M lsn life = L.entry M lsn life := ent_next x lsn _ _ _ _
/-- Where an entry ends, and of which life it is. -/
theorem ent_fit (hY : DY M) (lsn : Int) (k : Nat) : ∀ (n life : Int) (out : List Int), (L.ent M lsn k n life out).ok = true → n < (L.ent M lsn k n life out).next ∧ (L.ent M lsn k n life out).next ≤ n + k ∧ 0 ≤ (L.ent M lsn k n life out).life ∧ (L.ent M lsn k n life out).life < 18446744073709551616 := by
 induction k with
 | zero => intro n life out h; cases h
 | succ k ih =>
  intro n life out h
  have hf := L.rd_fit hY n
  rw [LA.ent_succ] at h ⊢
  split at h
  ·cases h
  ·rename_i h1
   rw [if_neg h1]
   split at h
   ·rename_i h2
    rw [if_pos h2]
    exact ⟨by show n < n + 1; omega, by show n + 1 ≤ n + ((k + 1 : Nat) : Int); omega, hf.1, hf.2.1⟩
   ·rename_i h2
    rw [if_neg h2]
    have := ih _ _ _ h
    exact ⟨by omega, by omega, this.2.2⟩
theorem entry_fit (hY : DY M) {lsn life : Int} (h : (L.entry M lsn life).ok = true) (hr : lsn ≤ L.start + L.ring) : lsn < (L.entry M lsn life).next ∧ (L.entry M lsn life).next ≤ L.start + L.ring ∧ 0 ≤ (L.entry M lsn life).life ∧ (L.entry M lsn life).life < 18446744073709551616 := by
 have := ent_fit hY lsn _ _ _ _ h
 unfold LA.entry at this ⊢
 refine ⟨this.1, ?_, this.2.2⟩
 have h2 := this.2.1
 omega
/-- A master that can be read is within its bounds. -/
theorem rnum_err {s : RdS} {m : Int} (h : s.e ≠ 0) : (rnum s m).2.e ≠ 0 := by rw [rnum_e h]; exact h
theorem rtext_err {s : RdS} {m : Int} (h : s.e ≠ 0) : (rtext s m).2.e ≠ 0 := by
 unfold rtext
 rw [rnum_e h]
 show (if s.e = 0 then _ else _ : ByteArray × RdS).2.e ≠ 0
 rw [if_neg h]; exact h
theorem rnum_okp {s : RdS} {m : Int} (h : (rnum s m).2.e = 0) : s.e = 0 := Decidable.byContradiction fun h2 => rnum_err h2 h
theorem rnum_le {s : RdS} {m : Int} (hb : Byt s.b) (h : (rnum s m).2.e = 0) : 0 ≤ (rnum s m).1 ∧ (rnum s m).1 ≤ m := by
 obtain ⟨n, _, h2, h3⟩ := rnum_back hb h
 omega
theorem ms_fit (hY : DY M) (n : Int) (h : (L.ms M n).ok = true) : (0 ≤ (L.ms M n).seq ∧ (L.ms M n).seq ≤ 9223372036854775807) ∧ (0 ≤ (L.ms M n).life ∧ (L.ms M n).life ≤ 1099511627776) ∧ (0 ≤ (L.ms M n).start ∧ (L.ms M n).start ≤ 4611686018427387903) ∧ (0 ≤ (L.ms M n).floor ∧ (L.ms M n).floor ≤ 1099511627776) := by
 unfold LA.ms at h ⊢
 split at h
 ·rename_i h0
  rw [if_pos h0]
  unfold mst at h ⊢
  simp only [Bool.and_eq_true, beq_iff_eq] at h ⊢
  have hb := hY.rdB (L.fr + n)
  generalize M.rdB (L.fr + n) = l at h hb ⊢
  have y1 : Byt (rtext ⟨l, 0⟩ 4).2.b := rtext_byt (s := ⟨l, 0⟩) hb 4
  generalize (rtext ⟨l, 0⟩ 4).2 = s1 at h y1 ⊢
  have e4 := h.1
  have y2 := rnum_byt y1 9223372036854775807
  have y3 := rnum_byt y2 1099511627776
  have y4 := rnum_byt y3 4611686018427387903
  have e3 := rnum_okp e4
  have e2 := rnum_okp e3
  have e1 := rnum_okp e2
  exact ⟨rnum_le y1 e1, rnum_le y2 e2, rnum_le y3 e3, rnum_le y4 e4⟩
 ·split at h <;> cases h
def wlop10.T10 : Bool × List (List Nat × List Nat) := (true, [([], []), ([0], [0]), ([1], [1]), ([2, 1], [1, 2]), ([1], [1]), ([4, 1], [1, 4]), ([5, 1], [1, 5]), ([6, 1], [1, 6]), ([3, 7, 1], [1, 3, 7]), ([1, 8], [1, 8])])
def wlop10.B10 : List Nat := [0, 1, 3, 7, 3, 19, 51, 115, 255, 511]
theorem wlop10.tab10 : rtab .any (opsOf Try.f35 10) = wlop10.T10 := by kernel_rfl
theorem wlop10.bits10 : waitsOk wlop10.T10.2 wlop10.B10 = true := by kernel_rfl
def wlop11.T11 : Bool × List (List Nat × List Nat) := (true, [([], []), ([], []), ([], []), ([], []), ([], []), ([4], [4]), ([], []), ([6], [6]), ([], []), ([8], [8]), ([], []), ([10], [10]), ([0, 0, 4, 5], [0]), ([12, 0, 4, 5], [12]), ([13, 5, 0, 4, 5], [5, 13]), ([1, 0, 1, 4, 5, 6, 7, 12, 13, 14], [1]), ([15, 0, 1, 4, 5, 6, 7, 12, 13, 14], [15]), ([16, 7, 14, 0, 1, 4, 5, 6, 7, 12, 13, 14], [7, 16]), ([2, 0, 1, 2, 4, 5, 6, 7, 8, 9, 12, 13, 14, 15, 16, 17], [2]), ([18, 0, 1, 2, 4, 5, 6, 7, 8, 9, 12, 13, 14, 15, 16, 17], [18]), ([19, 9, 17, 0, 1, 2, 4, 5, 6, 7, 8, 9, 12, 13, 14, 15, 16, 17], [9, 19]), ([3, 0, 1, 2, 3, 4, 5, 6, 7, 8, 9, 10, 11, 12, 13, 14, 15, 16, 17, 18, 19, 20], [3]), ([21, 0, 1, 2, 3, 4, 5, 6, 7, 8, 9, 10, 11, 12, 13, 14, 15, 16, 17, 18, 19, 20], [21]), ([22, 11, 20, 0, 1, 2, 3, 4, 5, 6, 7, 8, 9, 10, 11, 12, 13, 14, 15, 16, 17, 18, 19, 20], [11, 22])])
def wlop11.B11 : List Nat := [0, 0, 0, 0, 0, 16, 0, 64, 0, 256, 0, 1024, 49, 4145, 12337, 28915, 61683, 127219, 259063, 521207, 1045495, 2097151, 4194303, 8388607]
theorem wlop11.tab11 : rtab .any (opsOf Try.f35 11) = wlop11.T11 := by kernel_rfl
theorem wlop11.bits11 : waitsOk wlop11.T11.2 wlop11.B11 = true := by kernel_rfl
/-- What Open hands back. -/
def OpP (w0 w : World) (g : Nat) (S : Nat → Prop) (R : OpR) (e : Ending) (w' : World) : Prop :=
 ∃ v, e = .returned (.tuple #[v, .int .i64 R.e]) ∧ Kept w w' S ∧ ((R.L = none ∧ v = .pointer none ∧ St w0 w' g S R.M) ∨ ∃ p S' L, R.L = some L ∧ v = .pointer (some ⟨p, 0, none⟩) ∧ w.heap.size ≤ p ∧ Lg w0 w' p g S' L R.M ∧ (∀ k, S' k → S k ∨ w.heap.size ≤ k))
theorem OpP.no {R : OpR} {x : Int} {w' : World} (hD : St w0 w g S M) (hb : Below w.heap.size w w') (hR : R = ⟨none, x, M⟩) : OpP w0 w g S R (.returned (.tuple #[.pointer none, .int .i64 x])) w' := by
 subst hR
 exact ⟨_, rfl, Dk.Kept.of_below hb _, .inl ⟨rfl, rfl, hD.below hb⟩⟩
theorem msK_geo (L : LA) (M : DA) (k : Nat) : (L.msK M k).fr = L.fr ∧ (L.msK M k).ring = L.ring ∧ (L.msK M k).next = L.next ∧ (L.msK M k).forced = L.forced := by
 induction k with
 | zero => exact ⟨rfl, rfl, rfl, rfl⟩
 | succ k ih =>
  show ((L.msK M k).take _).fr = _ ∧ ((L.msK M k).take _).ring = _ ∧ ((L.msK M k).take _).next = _ ∧ ((L.msK M k).take _).forced = _
  unfold LA.take
  split <;> exact ih
/-- What a log took of masters is within its bounds. -/
structure LA.Fit (L : LA) : Prop where
 q : 0 ≤ L.seq ∧ L.seq ≤ 9223372036854775807
 l : 0 ≤ L.life ∧ L.life ≤ 1099511627776
 s : 0 ≤ L.start ∧ L.start ≤ 4611686018427387903
 f : 0 ≤ L.floor ∧ L.floor ≤ 1099511627776
theorem msK_fit (hY : DY M) (h : L.Fit) (k : Nat) : (L.msK M k).Fit := by
 induction k with
 | zero => exact h
 | succ k ih =>
  show ((L.msK M k).take _).Fit
  unfold LA.take
  split
  ·rename_i hc
   have := ms_fit hY _ hc.1
   exact ⟨this.1, this.2.1, this.2.2.1, this.2.2.2⟩
  ·exact ih
theorem scan_succ (L : LA) (M : DA) (k : Nat) (nx lf : Int) : L.scan M (k + 1) nx lf = if (L.entry M nx lf).e ≠ 0 then ⟨nx, lf, (L.entry M nx lf).e⟩ else if (L.entry M nx lf).ok = true then L.scan M k (L.entry M nx lf).next (L.entry M nx lf).life else ⟨nx, lf, 0⟩ := rfl
def nxOf (p : Nat) (w : World) : Int := intOf ((w.cell? ⟨p, 7, none⟩).getD undef)
set_option maxRecDepth 100000 in
set_option maxHeartbeats 4000000 in
theorem open_l (hD : St w0 w g S M) (hY : DY M) (hw : M.wait.length < 900000) (fr n : Int) (hn1 : n < 9223372036854775808) (hn0 : -9223372036854775808 ≤ n) : Calls Try.prog 35 #[.pointer (some ⟨g, 0, none⟩), .int .i64 fr, .int .i64 n] w fun e w' => OpP w0 w g S (opn M fr n) e w' := by
 have HD := Aside0.mk hD
 have HLEN := Aside0.mk (len_a hD.I)
 have hlen := hD.I.len.2.2.2
 by_cases hbad : n ≤ 2 ∨ fr < 0 ∨ (M.now.length : Int) < fr ∨ (M.now.length : Int) - fr < n
 ·have HR := Aside0.mk (show opn M fr n = ⟨none, 1, M⟩ from if_pos hbad)
  have hc : decide (n ≤ 2) = true ∨ (decide (n ≤ 2) = false ∧ decide (fr < 0) = true) ∨ (decide (n ≤ 2) = false ∧ decide (fr < 0) = false ∧ decide ((M.now.length : Int) < fr) = true) ∨ (decide (n ≤ 2) = false ∧ decide (fr < 0) = false ∧ decide ((M.now.length : Int) < fr) = false ∧ decide ((M.now.length : Int) - fr < n) = true ∧ IntKind.i64.wrap ((M.now.length : Int) - fr) = (M.now.length : Int) - fr) := by
   by_cases a1 : n ≤ 2
   ·left; simp [a1]
   ·by_cases a2 : fr < 0
    ·right; left; exact ⟨decide_eq_false a1, decide_eq_true a2⟩
    ·by_cases a3 : (M.now.length : Int) < fr
     ·right; right; left; exact ⟨decide_eq_false a1, decide_eq_false a2, decide_eq_true a3⟩
     ·right; right; right
      refine ⟨by simp; omega, by simp; omega, by simp; omega, by simp; omega, wi64 (by omega) (by omega)⟩
  clear hbad hD hlen
  rcases hc with b1 | ⟨b1, b2⟩ | ⟨b1, b2, b3⟩ | ⟨b1, b2, b3, b4, b5⟩
  all_goals
   go_enter Try.func35, Try.ntmps35
   go_wp2_with (go_at_call 31; refine HLEN.out.mono ?_; rintro e w' ⟨rfl, rfl⟩)
   go_ret2
   exact OpP.no HD.out (Below.refl _ _) HR.out
 have h1 : 2 < n := by omega
 have h2 : 0 ≤ fr := by omega
 have h3 : fr ≤ M.now.length := by omega
 have h4 : n ≤ (M.now.length : Int) - fr := by omega
 obtain ⟨R, hR⟩ : ∃ R, R = opn M fr n := ⟨_, rfl⟩
 obtain ⟨L0, hL0⟩ : ∃ L0 : LA, L0 = ⟨fr, n - 2, 0, 0, 0, 0, 0, 0⟩ := ⟨_, rfl⟩
 have hR1 : R = L0.opn1 M := by rw [hR, hL0]; exact if_neg hbad
 rw [← hR]
 have HR := Aside0.mk hR1
 have HL0 := Aside0.mk hL0
 have HG := Aside0.mk (show 0 ≤ fr ∧ 0 < n - 2 ∧ fr + 2 + (n - 2) ≤ M.now.length ∧ M.now.length ≤ 65536 by omega)
 have b1 : decide (n ≤ 2) = false := decide_eq_false (by omega)
 have b2 : decide (fr < 0) = false := decide_eq_false (by omega)
 have b3 : decide ((M.now.length : Int) < fr) = false := decide_eq_false (by omega)
 have b4 : decide ((M.now.length : Int) - fr < n) = false := decide_eq_false (by omega)
 have b5 : IntKind.i64.wrap ((M.now.length : Int) - fr) = (M.now.length : Int) - fr := wi64 (by omega) (by omega)
 have b6 : IntKind.i64.wrap (n - 2) = n - 2 := wi64 (by omega) (by omega)
 clear hR hR1 hL0 hbad hlen h1 h2 h3 h4 hD
 go_enter Try.func35, Try.ntmps35
 go_wp2_with (go_at_call 31; refine HLEN.out.mono ?_; rintro e w' ⟨rfl, hq⟩; have hq2 := hq.symm; clear hq; subst hq2)
 have HLg0 := Aside0.mk (show Lg w0 (w.alloc (.cells #[.pointer (some ⟨g, 0, none⟩), .int .i64 fr, .int .i64 (n - 2), .int .u64 0, .int .u64 0, .int .u64 0, .int .u64 0, .int .u64 0, .int .u64 0] 89 (0, 0))) w.heap.size g S L0 M from ⟨HD.out.alloc _, by rw [HL0.out]; exact blk_new _ _, HD.out.B.size, HD.out.new_row⟩)
 have HB0 := Aside0.mk (below_alloc (Below.refl w.heap.size w) (.cells #[.pointer (some ⟨g, 0, none⟩), .int .i64 fr, .int .i64 (n - 2), .int .u64 0, .int .u64 0, .int .u64 0, .int .u64 0, .int .u64 0, .int .u64 0] 89 (0, 0)))
 obtain ⟨p, hp⟩ : ∃ p, p = w.heap.size := ⟨_, rfl⟩
 have hpw := Aside0.mk (show w.heap.size ≤ p by omega)
 rw [← hp] at HLg0 ⊢
 clear b1 b2 b3 b4 b5 b6 hp HLEN
 generalize w.alloc _ = wb at HLg0 HB0 ⊢
 have hfr := Aside0.mk (show L0.fr = fr ∧ L0.ring = n - 2 by rw [HL0.out]; exact ⟨rfl, rfl⟩)
 go_loopw [45] (fun v45 wr => ∃ k : Nat, k ≤ 2 ∧ v45 = .int .i64 k ∧ Aside0 (Lg w0 wr p g S (L0.msK M k) M ∧ Below w.heap.size w wr ∧ (∀ i, i < k → ((L0.msK M i).ms M i).e = 0))) (fun v45 _ => 2 - (intOf v45).toNat)
 case atStart => exact ⟨0, Nat.zero_le _, rfl, ⟨HLg0.out, HB0.out, fun i hi => absurd hi (Nat.not_lt_zero _)⟩⟩
 case round =>
  obtain ⟨k, hk, rfl, hrel⟩ := hrel
  have HREL := hrel
  clear HLg0 HB0 hrel
  by_cases hk2 : k < 2
  ·have t2 : decide ((k : Int) < 2) = true := decide_eq_true (by omega)
   go_wp2_with fail
   refine (master_l HREL.out.1 (by have h_ := msK_geo L0 M k; rw [h_.1, hfr.out.1]; have := HG.out; omega) hY (k : Int) (by omega) (by omega)).mono ?_
   rintro e w5 ⟨rfl, hb⟩
   have hms := HREL.out.2.2
   obtain ⟨Lk, hLk⟩ : ∃ L, L = L0.msK M k := ⟨_, rfl⟩
   rw [← hLk]
   obtain ⟨m, hm⟩ : ∃ m, m = Lk.ms M (k : Int) := ⟨_, rfl⟩
   rw [← hm]
   have HLk := Aside0.mk hLk
   have HM := Aside0.mk hm
   have HL5 := Aside0.mk (show Lg w0 w5 p g S Lk M from by rw [hLk]; exact HREL.out.1.below hb)
   have HB5 := Aside0.mk (below_step HREL.out.2.1 hb)
   have HPR := Aside0.mk hms
   clear hms hLk hm hb HREL t2
   unfold Mst.agg
   by_cases he : m.e = 0
   ·have e0 : (m.e != 0) = false := by simp [he]
    have HE := Aside0.mk he
    clear he
    have BXn := Aside0.mk (blk_new w5 (.cells #[.pointer none, .int .i64 0, .int .i64 0, .int .u64 m.seq, .int .u64 m.life, .int .u64 m.start, .int .u64 m.floor, .int .u64 0, .int .u64 0] 89 (0, 0)))
    have HL6 := Aside0.mk (HL5.out.below (below_alloc (Below.refl _ _) (.cells #[.pointer none, .int .i64 0, .int .i64 0, .int .u64 m.seq, .int .u64 m.life, .int .u64 m.start, .int .u64 m.floor, .int .u64 0, .int .u64 0] 89 (0, 0))))
    have HB6 := Aside0.mk (below_alloc HB5.out (.cells #[.pointer none, .int .i64 0, .int .i64 0, .int .u64 m.seq, .int .u64 m.life, .int .u64 m.start, .int .u64 m.floor, .int .u64 0, .int .u64 0] 89 (0, 0)))
    go_upto_region 10 with fail
    obtain ⟨k10, hk10⟩ : ∃ k, k = w5.heap.size := ⟨_, rfl⟩
    have hne10 := Aside0.mk (show k10 ≠ p by have := HL5.out.lt; omega)
    rw [← hk10] at BXn ⊢
    clear HL5 HB5 hk10 e0
    generalize w5.alloc _ = w6 at BXn HL6 HB6 ⊢
    have y3 : w6.cell? ⟨k10, 3, none⟩ = some (.int .u64 m.seq) := (blk_cell BXn.out 3).trans rfl
    have c3 := HL6.out.all.2.2.2.1
    by_cases hlt : m.ok = true ∧ Lk.seq < m.seq
    ·have b1 := hlt.1
     have b2 : decide (Lk.seq < m.seq) = true := decide_eq_true hlt.2
     have hTK := Aside0.mk (show Lk.take m = mid Lk m true true true true from if_pos hlt)
     clear hlt
     go_quiet (fail)
     have I := Aside0.mk (show Lg w0 (w6.drewN nq) p g S (mid Lk m false false false false) M from HL6.out.below (below_drewN w6 nq))
     have BX := Aside0.mk (show (w6.drewN nq).heap[k10]? = some (.cells #[.pointer none, .int .i64 0, .int .i64 0, .int .u64 m.seq, .int .u64 m.life, .int .u64 m.start, .int .u64 m.floor, .int .u64 0, .int .u64 0] 89 (0, 0)) from BXn.out)
     have HB := Aside0.mk (below_step HB6.out (below_drewN w6 nq))
     clear y3 c3 b1 b2 HL6 BXn HB6
     generalize w6.drewN nq = w7 at I BX HB ⊢
     go_upto_region 11 with fail
     refine start_ (n := 24) (S := fun w' => True) (ds := []) #[false, false, false, false, false, false, false, false, false, false, false, false, false, false, false, false, false, false, false, false, false, false, false, false] (by kernel_rfl) rfl rfl trivial (fun hHeld => ?_)
     refine with_tabW wlop11.tab11 wlop11.bits11 (fun HT_ HW_ => ?_)
     have n0_ := Aside0.mk (I.out.below (below_drew (Below.refl _ _)))
     have n1_ := Aside0.mk (blk_drew BX.out)
     have n2_ := Aside0.mk (below_drew HB.out)
     clear I BX HB
     generalize World.drew _ = wd at n0_ n1_ n2_ hHeld ⊢
     have I := n0_
     have BX := n1_
     have HB := n2_
     clear hHeld n0_ n1_ n2_
     refine inv_at [0, 1, 2, 3, 4, 5, 6, 7, 8, 9, 10, 11, 12, 13, 14, 15, 16, 17, 18, 19, 20, 21, 22, 23] (fun a0_ b a w' => a = putSel a0_ b [(0, 68, .pointer (some ⟨p, 0, none⟩)), (1, 69, .pointer (some ⟨p, 0, none⟩)), (2, 70, .pointer (some ⟨p, 0, none⟩)), (3, 71, .pointer (some ⟨p, 0, none⟩)), (4, 72, .pointer (some ⟨k10, 3, none⟩)), (5, 73, .int .u64 m.seq), (6, 74, .pointer (some ⟨k10, 4, none⟩)), (7, 75, .int .u64 m.life), (8, 76, .pointer (some ⟨k10, 5, none⟩)), (9, 77, .int .u64 m.start), (10, 78, .pointer (some ⟨k10, 6, none⟩)), (11, 79, .int .u64 m.floor), (12, 80, .pointer (some ⟨p, 0, none⟩)), (13, 81, .pointer (some ⟨p, 3, none⟩)), (15, 82, .pointer (some ⟨p, 0, none⟩)), (16, 83, .pointer (some ⟨p, 4, none⟩)), (18, 84, .pointer (some ⟨p, 0, none⟩)), (19, 85, .pointer (some ⟨p, 5, none⟩)), (21, 86, .pointer (some ⟨p, 0, none⟩)), (22, 87, .pointer (some ⟨p, 6, none⟩))] ∧ (Lg w0 w' p g S (mid Lk m (b 14) (b 17) (b 20) (b 23)) M) ∧ (w'.heap[k10]? = some (.cells #[.pointer none, .int .i64 0, .int .i64 0, .int .u64 m.seq, .int .u64 m.life, .int .u64 m.start, .int .u64 m.floor, .int .u64 0, .int .u64 0] 89 (0, 0))) ∧ (Below w.heap.size w w')) HT_.out HW_.out (by kernel_rfl) (by kernel_rfl) ?_ ?_ ?_
     ·exact ⟨by simp only [putSel, Bool.false_eq_true, if_false], I.out, BX.out, HB.out⟩
     ·skip
      clear BX HB I
      refine steps_cons ?_ ?_
      ·rintro b a w' ⟨ha, Q_I, Q_BX, Q_HB⟩ hb_ hon hoff
       refine ⟨_, rfl, fun K hK => ?_⟩
       have e8 : a.tmps[8]? = some (.pointer (some ⟨p, 0, none⟩)) := by rw [ha]; exact (putSel_off rfl).trans rfl
       replace ha := Aside0.mk ha
       have I := Aside0.mk Q_I
       have BX := Aside0.mk Q_BX
       have HB := Aside0.mk Q_HB
       refine value_ (w1 := w') (v := .pointer (some ⟨p, 0, none⟩)) (by rfl) rfl ?_ ?_
       ·go_simp
        (try simp only [i64_w])
        try rfl
       refine hK.out _ _ ⟨(by rw [ha.out]; exact putSel_upk 0 hb_ rfl rfl rfl), Q_I, Q_BX, Q_HB⟩
      refine steps_cons ?_ ?_
      ·rintro b a w' ⟨ha, Q_I, Q_BX, Q_HB⟩ hb_ hon hoff
       refine ⟨_, rfl, fun K hK => ?_⟩
       have e8 : a.tmps[8]? = some (.pointer (some ⟨p, 0, none⟩)) := by rw [ha]; exact (putSel_off rfl).trans rfl
       replace ha := Aside0.mk ha
       have I := Aside0.mk Q_I
       have BX := Aside0.mk Q_BX
       have HB := Aside0.mk Q_HB
       refine value_ (w1 := w') (v := .pointer (some ⟨p, 0, none⟩)) (by rfl) rfl ?_ ?_
       ·go_simp
        (try simp only [i64_w])
        try rfl
       refine hK.out _ _ ⟨(by rw [ha.out]; exact putSel_upk 1 hb_ rfl rfl rfl), Q_I, Q_BX, Q_HB⟩
      refine steps_cons ?_ ?_
      ·rintro b a w' ⟨ha, Q_I, Q_BX, Q_HB⟩ hb_ hon hoff
       refine ⟨_, rfl, fun K hK => ?_⟩
       have e8 : a.tmps[8]? = some (.pointer (some ⟨p, 0, none⟩)) := by rw [ha]; exact (putSel_off rfl).trans rfl
       replace ha := Aside0.mk ha
       have I := Aside0.mk Q_I
       have BX := Aside0.mk Q_BX
       have HB := Aside0.mk Q_HB
       refine value_ (w1 := w') (v := .pointer (some ⟨p, 0, none⟩)) (by rfl) rfl ?_ ?_
       ·go_simp
        (try simp only [i64_w])
        try rfl
       refine hK.out _ _ ⟨(by rw [ha.out]; exact putSel_upk 2 hb_ rfl rfl rfl), Q_I, Q_BX, Q_HB⟩
      refine steps_cons ?_ ?_
      ·rintro b a w' ⟨ha, Q_I, Q_BX, Q_HB⟩ hb_ hon hoff
       refine ⟨_, rfl, fun K hK => ?_⟩
       have e8 : a.tmps[8]? = some (.pointer (some ⟨p, 0, none⟩)) := by rw [ha]; exact (putSel_off rfl).trans rfl
       replace ha := Aside0.mk ha
       have I := Aside0.mk Q_I
       have BX := Aside0.mk Q_BX
       have HB := Aside0.mk Q_HB
       refine value_ (w1 := w') (v := .pointer (some ⟨p, 0, none⟩)) (by rfl) rfl ?_ ?_
       ·go_simp
        (try simp only [i64_w])
        try rfl
       refine hK.out _ _ ⟨(by rw [ha.out]; exact putSel_upk 3 hb_ rfl rfl rfl), Q_I, Q_BX, Q_HB⟩
      refine steps_cons ?_ ?_
      ·rintro b a w' ⟨ha, Q_I, Q_BX, Q_HB⟩ hb_ hon hoff
       refine ⟨_, rfl, fun K hK => ?_⟩
       have e10 : a.tmps[10]? = some (.pointer (some ⟨k10, 0, none⟩)) := by rw [ha]; exact (putSel_off rfl).trans rfl
       replace ha := Aside0.mk ha
       have I := Aside0.mk Q_I
       have BX := Aside0.mk Q_BX
       have HB := Aside0.mk Q_HB
       refine value_ (w1 := w') (v := .pointer (some ⟨k10, 3, none⟩)) (by rfl) rfl ?_ ?_
       ·go_simp
        (try simp only [i64_w])
        try rfl
       refine hK.out _ _ ⟨(by rw [ha.out]; exact putSel_upk 4 hb_ rfl rfl rfl), Q_I, Q_BX, Q_HB⟩
      refine steps_cons ?_ ?_
      ·rintro b a w' ⟨ha, Q_I, Q_BX, Q_HB⟩ hb_ hon hoff
       refine ⟨_, rfl, fun K hK => ?_⟩
       have e72 : a.tmps[72]? = some (.pointer (some ⟨k10, 3, none⟩)) := by rw [ha]; exact putSel_on (e := (4, 72, .pointer (some ⟨k10, 3, none⟩))) 4 rfl rfl (hon 4 (by kernel_rfl)) rfl
       replace ha := Aside0.mk ha
       have I := Aside0.mk Q_I
       have BX := Aside0.mk Q_BX
       have HB := Aside0.mk Q_HB
       have hc_ : w'.cell? ⟨k10, 3, none⟩ = some (.int .u64 m.seq) := (blk_cell BX.out 3).trans rfl
       refine value_ (w1 := w') (v := .int .u64 m.seq) (by rfl) rfl ?_ ?_
       ·go_simp
        (try simp only [i64_w])
        try rfl
       refine hK.out _ _ ⟨(by rw [ha.out]; exact putSel_upk 5 hb_ rfl rfl rfl), Q_I, Q_BX, Q_HB⟩
      refine steps_cons ?_ ?_
      ·rintro b a w' ⟨ha, Q_I, Q_BX, Q_HB⟩ hb_ hon hoff
       refine ⟨_, rfl, fun K hK => ?_⟩
       have e10 : a.tmps[10]? = some (.pointer (some ⟨k10, 0, none⟩)) := by rw [ha]; exact (putSel_off rfl).trans rfl
       replace ha := Aside0.mk ha
       have I := Aside0.mk Q_I
       have BX := Aside0.mk Q_BX
       have HB := Aside0.mk Q_HB
       refine value_ (w1 := w') (v := .pointer (some ⟨k10, 4, none⟩)) (by rfl) rfl ?_ ?_
       ·go_simp
        (try simp only [i64_w])
        try rfl
       refine hK.out _ _ ⟨(by rw [ha.out]; exact putSel_upk 6 hb_ rfl rfl rfl), Q_I, Q_BX, Q_HB⟩
      refine steps_cons ?_ ?_
      ·rintro b a w' ⟨ha, Q_I, Q_BX, Q_HB⟩ hb_ hon hoff
       refine ⟨_, rfl, fun K hK => ?_⟩
       have e74 : a.tmps[74]? = some (.pointer (some ⟨k10, 4, none⟩)) := by rw [ha]; exact putSel_on (e := (6, 74, .pointer (some ⟨k10, 4, none⟩))) 6 rfl rfl (hon 6 (by kernel_rfl)) rfl
       replace ha := Aside0.mk ha
       have I := Aside0.mk Q_I
       have BX := Aside0.mk Q_BX
       have HB := Aside0.mk Q_HB
       have hc_ : w'.cell? ⟨k10, 4, none⟩ = some (.int .u64 m.life) := (blk_cell BX.out 4).trans rfl
       refine value_ (w1 := w') (v := .int .u64 m.life) (by rfl) rfl ?_ ?_
       ·go_simp
        (try simp only [i64_w])
        try rfl
       refine hK.out _ _ ⟨(by rw [ha.out]; exact putSel_upk 7 hb_ rfl rfl rfl), Q_I, Q_BX, Q_HB⟩
      refine steps_cons ?_ ?_
      ·rintro b a w' ⟨ha, Q_I, Q_BX, Q_HB⟩ hb_ hon hoff
       refine ⟨_, rfl, fun K hK => ?_⟩
       have e10 : a.tmps[10]? = some (.pointer (some ⟨k10, 0, none⟩)) := by rw [ha]; exact (putSel_off rfl).trans rfl
       replace ha := Aside0.mk ha
       have I := Aside0.mk Q_I
       have BX := Aside0.mk Q_BX
       have HB := Aside0.mk Q_HB
       refine value_ (w1 := w') (v := .pointer (some ⟨k10, 5, none⟩)) (by rfl) rfl ?_ ?_
       ·go_simp
        (try simp only [i64_w])
        try rfl
       refine hK.out _ _ ⟨(by rw [ha.out]; exact putSel_upk 8 hb_ rfl rfl rfl), Q_I, Q_BX, Q_HB⟩
      refine steps_cons ?_ ?_
      ·rintro b a w' ⟨ha, Q_I, Q_BX, Q_HB⟩ hb_ hon hoff
       refine ⟨_, rfl, fun K hK => ?_⟩
       have e76 : a.tmps[76]? = some (.pointer (some ⟨k10, 5, none⟩)) := by rw [ha]; exact putSel_on (e := (8, 76, .pointer (some ⟨k10, 5, none⟩))) 8 rfl rfl (hon 8 (by kernel_rfl)) rfl
       replace ha := Aside0.mk ha
       have I := Aside0.mk Q_I
       have BX := Aside0.mk Q_BX
       have HB := Aside0.mk Q_HB
       have hc_ : w'.cell? ⟨k10, 5, none⟩ = some (.int .u64 m.start) := (blk_cell BX.out 5).trans rfl
       refine value_ (w1 := w') (v := .int .u64 m.start) (by rfl) rfl ?_ ?_
       ·go_simp
        (try simp only [i64_w])
        try rfl
       refine hK.out _ _ ⟨(by rw [ha.out]; exact putSel_upk 9 hb_ rfl rfl rfl), Q_I, Q_BX, Q_HB⟩
      refine steps_cons ?_ ?_
      ·rintro b a w' ⟨ha, Q_I, Q_BX, Q_HB⟩ hb_ hon hoff
       refine ⟨_, rfl, fun K hK => ?_⟩
       have e10 : a.tmps[10]? = some (.pointer (some ⟨k10, 0, none⟩)) := by rw [ha]; exact (putSel_off rfl).trans rfl
       replace ha := Aside0.mk ha
       have I := Aside0.mk Q_I
       have BX := Aside0.mk Q_BX
       have HB := Aside0.mk Q_HB
       refine value_ (w1 := w') (v := .pointer (some ⟨k10, 6, none⟩)) (by rfl) rfl ?_ ?_
       ·go_simp
        (try simp only [i64_w])
        try rfl
       refine hK.out _ _ ⟨(by rw [ha.out]; exact putSel_upk 10 hb_ rfl rfl rfl), Q_I, Q_BX, Q_HB⟩
      refine steps_cons ?_ ?_
      ·rintro b a w' ⟨ha, Q_I, Q_BX, Q_HB⟩ hb_ hon hoff
       refine ⟨_, rfl, fun K hK => ?_⟩
       have e78 : a.tmps[78]? = some (.pointer (some ⟨k10, 6, none⟩)) := by rw [ha]; exact putSel_on (e := (10, 78, .pointer (some ⟨k10, 6, none⟩))) 10 rfl rfl (hon 10 (by kernel_rfl)) rfl
       replace ha := Aside0.mk ha
       have I := Aside0.mk Q_I
       have BX := Aside0.mk Q_BX
       have HB := Aside0.mk Q_HB
       have hc_ : w'.cell? ⟨k10, 6, none⟩ = some (.int .u64 m.floor) := (blk_cell BX.out 6).trans rfl
       refine value_ (w1 := w') (v := .int .u64 m.floor) (by rfl) rfl ?_ ?_
       ·go_simp
        (try simp only [i64_w])
        try rfl
       refine hK.out _ _ ⟨(by rw [ha.out]; exact putSel_upk 11 hb_ rfl rfl rfl), Q_I, Q_BX, Q_HB⟩
      refine steps_cons ?_ ?_
      ·rintro b a w' ⟨ha, Q_I, Q_BX, Q_HB⟩ hb_ hon hoff
       refine ⟨_, rfl, fun K hK => ?_⟩
       have e68 : a.tmps[68]? = some (.pointer (some ⟨p, 0, none⟩)) := by rw [ha]; exact putSel_on (e := (0, 68, .pointer (some ⟨p, 0, none⟩))) 0 rfl rfl (hon 0 (by kernel_rfl)) rfl
       replace ha := Aside0.mk ha
       have I := Aside0.mk Q_I
       have BX := Aside0.mk Q_BX
       have HB := Aside0.mk Q_HB
       refine value_ (w1 := w') (v := .pointer (some ⟨p, 0, none⟩)) (by rfl) rfl ?_ ?_
       ·go_simp
        (try simp only [i64_w])
        try rfl
       refine hK.out _ _ ⟨(by rw [ha.out]; exact putSel_upk 12 hb_ rfl rfl rfl), Q_I, Q_BX, Q_HB⟩
      refine steps_cons ?_ ?_
      ·rintro b a w' ⟨ha, Q_I, Q_BX, Q_HB⟩ hb_ hon hoff
       refine ⟨_, rfl, fun K hK => ?_⟩
       have e80 : a.tmps[80]? = some (.pointer (some ⟨p, 0, none⟩)) := by rw [ha]; exact putSel_on (e := (12, 80, .pointer (some ⟨p, 0, none⟩))) 12 rfl rfl (hon 12 (by kernel_rfl)) rfl
       replace ha := Aside0.mk ha
       have I := Aside0.mk Q_I
       have BX := Aside0.mk Q_BX
       have HB := Aside0.mk Q_HB
       refine value_ (w1 := w') (v := .pointer (some ⟨p, 3, none⟩)) (by rfl) rfl ?_ ?_
       ·go_simp
        (try simp only [i64_w])
        try rfl
       refine hK.out _ _ ⟨(by rw [ha.out]; exact putSel_upk 13 hb_ rfl rfl rfl), Q_I, Q_BX, Q_HB⟩
      refine steps_cons ?_ ?_
      ·rintro b a w' ⟨ha, Q_I, Q_BX, Q_HB⟩ hb_ hon hoff
       refine ⟨_, rfl, fun K hK => ?_⟩
       have e81 : a.tmps[81]? = some (.pointer (some ⟨p, 3, none⟩)) := by rw [ha]; exact putSel_on (e := (13, 81, .pointer (some ⟨p, 3, none⟩))) 13 rfl rfl (hon 13 (by kernel_rfl)) rfl
       have e73 : a.tmps[73]? = some (.int .u64 m.seq) := by rw [ha]; exact putSel_on (e := (5, 73, .int .u64 m.seq)) 5 rfl rfl (hon 5 (by kernel_rfl)) rfl
       replace ha := Aside0.mk ha
       have I := Aside0.mk Q_I
       have BX := Aside0.mk Q_BX
       have HB := Aside0.mk Q_HB
       have hf_ : w'.frozen? ⟨p, 3, none⟩ = false := blk_frozen I.out.B 3
       obtain ⟨v_, hv_⟩ := mid_cell0 I.out
       refine skip_ (w1 := w'.setCell ⟨p, 3, none⟩ (.int .u64 m.seq)) (by rfl) rfl ?_ ?_
       ·go_simp
        try rfl
       refine hK.out _ _ ⟨(by rw [ha.out]; exact putSel_none (v := undef) rfl), (mid_set0 (by have h_ := I.out; rw [hb_] at h_; exact h_)), (blk_far BX.out (p := ⟨p, 3, none⟩) hne10.out _), (below_set HB.out hpw.out)⟩
      refine steps_cons ?_ ?_
      ·rintro b a w' ⟨ha, Q_I, Q_BX, Q_HB⟩ hb_ hon hoff
       refine ⟨_, rfl, fun K hK => ?_⟩
       have e69 : a.tmps[69]? = some (.pointer (some ⟨p, 0, none⟩)) := by rw [ha]; exact putSel_on (e := (1, 69, .pointer (some ⟨p, 0, none⟩))) 1 rfl rfl (hon 1 (by kernel_rfl)) rfl
       replace ha := Aside0.mk ha
       have I := Aside0.mk Q_I
       have BX := Aside0.mk Q_BX
       have HB := Aside0.mk Q_HB
       refine value_ (w1 := w') (v := .pointer (some ⟨p, 0, none⟩)) (by rfl) rfl ?_ ?_
       ·go_simp
        (try simp only [i64_w])
        try rfl
       refine hK.out _ _ ⟨(by rw [ha.out]; exact putSel_upk 14 hb_ rfl rfl rfl), Q_I, Q_BX, Q_HB⟩
      refine steps_cons ?_ ?_
      ·rintro b a w' ⟨ha, Q_I, Q_BX, Q_HB⟩ hb_ hon hoff
       refine ⟨_, rfl, fun K hK => ?_⟩
       have e82 : a.tmps[82]? = some (.pointer (some ⟨p, 0, none⟩)) := by rw [ha]; exact putSel_on (e := (15, 82, .pointer (some ⟨p, 0, none⟩))) 14 rfl rfl (hon 15 (by kernel_rfl)) rfl
       replace ha := Aside0.mk ha
       have I := Aside0.mk Q_I
       have BX := Aside0.mk Q_BX
       have HB := Aside0.mk Q_HB
       refine value_ (w1 := w') (v := .pointer (some ⟨p, 4, none⟩)) (by rfl) rfl ?_ ?_
       ·go_simp
        (try simp only [i64_w])
        try rfl
       refine hK.out _ _ ⟨(by rw [ha.out]; exact putSel_upk 15 hb_ rfl rfl rfl), Q_I, Q_BX, Q_HB⟩
      refine steps_cons ?_ ?_
      ·rintro b a w' ⟨ha, Q_I, Q_BX, Q_HB⟩ hb_ hon hoff
       refine ⟨_, rfl, fun K hK => ?_⟩
       have e83 : a.tmps[83]? = some (.pointer (some ⟨p, 4, none⟩)) := by rw [ha]; exact putSel_on (e := (16, 83, .pointer (some ⟨p, 4, none⟩))) 15 rfl rfl (hon 16 (by kernel_rfl)) rfl
       have e75 : a.tmps[75]? = some (.int .u64 m.life) := by rw [ha]; exact putSel_on (e := (7, 75, .int .u64 m.life)) 7 rfl rfl (hon 7 (by kernel_rfl)) rfl
       replace ha := Aside0.mk ha
       have I := Aside0.mk Q_I
       have BX := Aside0.mk Q_BX
       have HB := Aside0.mk Q_HB
       have hf_ : w'.frozen? ⟨p, 4, none⟩ = false := blk_frozen I.out.B 4
       obtain ⟨v_, hv_⟩ := mid_cell1 I.out
       refine skip_ (w1 := w'.setCell ⟨p, 4, none⟩ (.int .u64 m.life)) (by rfl) rfl ?_ ?_
       ·go_simp
        try rfl
       refine hK.out _ _ ⟨(by rw [ha.out]; exact putSel_none (v := undef) rfl), (mid_set1 (by have h_ := I.out; rw [hb_] at h_; exact h_)), (blk_far BX.out (p := ⟨p, 4, none⟩) hne10.out _), (below_set HB.out hpw.out)⟩
      refine steps_cons ?_ ?_
      ·rintro b a w' ⟨ha, Q_I, Q_BX, Q_HB⟩ hb_ hon hoff
       refine ⟨_, rfl, fun K hK => ?_⟩
       have e70 : a.tmps[70]? = some (.pointer (some ⟨p, 0, none⟩)) := by rw [ha]; exact putSel_on (e := (2, 70, .pointer (some ⟨p, 0, none⟩))) 2 rfl rfl (hon 2 (by kernel_rfl)) rfl
       replace ha := Aside0.mk ha
       have I := Aside0.mk Q_I
       have BX := Aside0.mk Q_BX
       have HB := Aside0.mk Q_HB
       refine value_ (w1 := w') (v := .pointer (some ⟨p, 0, none⟩)) (by rfl) rfl ?_ ?_
       ·go_simp
        (try simp only [i64_w])
        try rfl
       refine hK.out _ _ ⟨(by rw [ha.out]; exact putSel_upk 16 hb_ rfl rfl rfl), Q_I, Q_BX, Q_HB⟩
      refine steps_cons ?_ ?_
      ·rintro b a w' ⟨ha, Q_I, Q_BX, Q_HB⟩ hb_ hon hoff
       refine ⟨_, rfl, fun K hK => ?_⟩
       have e84 : a.tmps[84]? = some (.pointer (some ⟨p, 0, none⟩)) := by rw [ha]; exact putSel_on (e := (18, 84, .pointer (some ⟨p, 0, none⟩))) 16 rfl rfl (hon 18 (by kernel_rfl)) rfl
       replace ha := Aside0.mk ha
       have I := Aside0.mk Q_I
       have BX := Aside0.mk Q_BX
       have HB := Aside0.mk Q_HB
       refine value_ (w1 := w') (v := .pointer (some ⟨p, 5, none⟩)) (by rfl) rfl ?_ ?_
       ·go_simp
        (try simp only [i64_w])
        try rfl
       refine hK.out _ _ ⟨(by rw [ha.out]; exact putSel_upk 17 hb_ rfl rfl rfl), Q_I, Q_BX, Q_HB⟩
      refine steps_cons ?_ ?_
      ·rintro b a w' ⟨ha, Q_I, Q_BX, Q_HB⟩ hb_ hon hoff
       refine ⟨_, rfl, fun K hK => ?_⟩
       have e85 : a.tmps[85]? = some (.pointer (some ⟨p, 5, none⟩)) := by rw [ha]; exact putSel_on (e := (19, 85, .pointer (some ⟨p, 5, none⟩))) 17 rfl rfl (hon 19 (by kernel_rfl)) rfl
       have e77 : a.tmps[77]? = some (.int .u64 m.start) := by rw [ha]; exact putSel_on (e := (9, 77, .int .u64 m.start)) 9 rfl rfl (hon 9 (by kernel_rfl)) rfl
       replace ha := Aside0.mk ha
       have I := Aside0.mk Q_I
       have BX := Aside0.mk Q_BX
       have HB := Aside0.mk Q_HB
       have hf_ : w'.frozen? ⟨p, 5, none⟩ = false := blk_frozen I.out.B 5
       obtain ⟨v_, hv_⟩ := mid_cell2 I.out
       refine skip_ (w1 := w'.setCell ⟨p, 5, none⟩ (.int .u64 m.start)) (by rfl) rfl ?_ ?_
       ·go_simp
        try rfl
       refine hK.out _ _ ⟨(by rw [ha.out]; exact putSel_none (v := undef) rfl), (mid_set2 (by have h_ := I.out; rw [hb_] at h_; exact h_)), (blk_far BX.out (p := ⟨p, 5, none⟩) hne10.out _), (below_set HB.out hpw.out)⟩
      refine steps_cons ?_ ?_
      ·rintro b a w' ⟨ha, Q_I, Q_BX, Q_HB⟩ hb_ hon hoff
       refine ⟨_, rfl, fun K hK => ?_⟩
       have e71 : a.tmps[71]? = some (.pointer (some ⟨p, 0, none⟩)) := by rw [ha]; exact putSel_on (e := (3, 71, .pointer (some ⟨p, 0, none⟩))) 3 rfl rfl (hon 3 (by kernel_rfl)) rfl
       replace ha := Aside0.mk ha
       have I := Aside0.mk Q_I
       have BX := Aside0.mk Q_BX
       have HB := Aside0.mk Q_HB
       refine value_ (w1 := w') (v := .pointer (some ⟨p, 0, none⟩)) (by rfl) rfl ?_ ?_
       ·go_simp
        (try simp only [i64_w])
        try rfl
       refine hK.out _ _ ⟨(by rw [ha.out]; exact putSel_upk 18 hb_ rfl rfl rfl), Q_I, Q_BX, Q_HB⟩
      refine steps_cons ?_ ?_
      ·rintro b a w' ⟨ha, Q_I, Q_BX, Q_HB⟩ hb_ hon hoff
       refine ⟨_, rfl, fun K hK => ?_⟩
       have e86 : a.tmps[86]? = some (.pointer (some ⟨p, 0, none⟩)) := by rw [ha]; exact putSel_on (e := (21, 86, .pointer (some ⟨p, 0, none⟩))) 18 rfl rfl (hon 21 (by kernel_rfl)) rfl
       replace ha := Aside0.mk ha
       have I := Aside0.mk Q_I
       have BX := Aside0.mk Q_BX
       have HB := Aside0.mk Q_HB
       refine value_ (w1 := w') (v := .pointer (some ⟨p, 6, none⟩)) (by rfl) rfl ?_ ?_
       ·go_simp
        (try simp only [i64_w])
        try rfl
       refine hK.out _ _ ⟨(by rw [ha.out]; exact putSel_upk 19 hb_ rfl rfl rfl), Q_I, Q_BX, Q_HB⟩
      refine steps_cons ?_ ?_
      ·rintro b a w' ⟨ha, Q_I, Q_BX, Q_HB⟩ hb_ hon hoff
       refine ⟨_, rfl, fun K hK => ?_⟩
       have e87 : a.tmps[87]? = some (.pointer (some ⟨p, 6, none⟩)) := by rw [ha]; exact putSel_on (e := (22, 87, .pointer (some ⟨p, 6, none⟩))) 19 rfl rfl (hon 22 (by kernel_rfl)) rfl
       have e79 : a.tmps[79]? = some (.int .u64 m.floor) := by rw [ha]; exact putSel_on (e := (11, 79, .int .u64 m.floor)) 11 rfl rfl (hon 11 (by kernel_rfl)) rfl
       replace ha := Aside0.mk ha
       have I := Aside0.mk Q_I
       have BX := Aside0.mk Q_BX
       have HB := Aside0.mk Q_HB
       have hf_ : w'.frozen? ⟨p, 6, none⟩ = false := blk_frozen I.out.B 6
       obtain ⟨v_, hv_⟩ := mid_cell3 I.out
       refine skip_ (w1 := w'.setCell ⟨p, 6, none⟩ (.int .u64 m.floor)) (by rfl) rfl ?_ ?_
       ·go_simp
        try rfl
       refine hK.out _ _ ⟨(by rw [ha.out]; exact putSel_none (v := undef) rfl), (mid_set3 (by have h_ := I.out; rw [hb_] at h_; exact h_)), (blk_far BX.out (p := ⟨p, 6, none⟩) hne10.out _), (below_set HB.out hpw.out)⟩
      exact steps_nil
     rintro b a w' hall ⟨ha, Q_I, Q_BX, Q_HB⟩
     clear BX HB I
     have hb0_ := hall 0 (by kernel_rfl)
     have hb1_ := hall 1 (by kernel_rfl)
     have hb2_ := hall 2 (by kernel_rfl)
     have hb3_ := hall 3 (by kernel_rfl)
     have hb4_ := hall 4 (by kernel_rfl)
     have hb5_ := hall 5 (by kernel_rfl)
     have hb6_ := hall 6 (by kernel_rfl)
     have hb7_ := hall 7 (by kernel_rfl)
     have hb8_ := hall 8 (by kernel_rfl)
     have hb9_ := hall 9 (by kernel_rfl)
     have hb10_ := hall 10 (by kernel_rfl)
     have hb11_ := hall 11 (by kernel_rfl)
     have hb12_ := hall 12 (by kernel_rfl)
     have hb13_ := hall 13 (by kernel_rfl)
     have hb14_ := hall 14 (by kernel_rfl)
     have hb15_ := hall 15 (by kernel_rfl)
     have hb16_ := hall 16 (by kernel_rfl)
     have hb17_ := hall 17 (by kernel_rfl)
     have hb18_ := hall 18 (by kernel_rfl)
     have hb19_ := hall 19 (by kernel_rfl)
     have hb20_ := hall 20 (by kernel_rfl)
     have hb21_ := hall 21 (by kernel_rfl)
     have hb22_ := hall 22 (by kernel_rfl)
     have hb23_ := hall 23 (by kernel_rfl)
     subst ha
     simp only [putSel, hb0_, hb1_, hb2_, hb3_, hb4_, hb5_, hb6_, hb7_, hb8_, hb9_, hb10_, hb11_, hb12_, hb13_, hb14_, hb15_, hb16_, hb17_, hb18_, hb19_, hb20_, hb21_, hb22_, hb23_, if_true, Act.put, List.setIfInBounds_toArray, List.set_cons_zero, List.set_cons_succ]
     have I := Aside0.mk Q_I
     clear Q_I
     have BX := Aside0.mk Q_BX
     clear Q_BX
     have HB := Aside0.mk Q_HB
     clear Q_HB
     replace I := I.out
     rw [hb14_, hb17_, hb20_, hb23_] at I
     replace I := Aside0.mk I
     clear hall hb0_ hb1_ hb2_ hb3_ hb4_ hb5_ hb6_ hb7_ hb8_ hb9_ hb10_ hb11_ hb12_ hb13_ hb14_ hb15_ hb16_ hb17_ hb18_ hb19_ hb20_ hb21_ hb22_ hb23_
     go_wp2
     go_roundw
     case rel =>
      exact ⟨k + 1, by omega, by go_num, ⟨by show Lg w0 _ p g S ((L0.msK M k).take ((L0.msK M k).ms M k)) M; rw [← HLk.out, ← HM.out, hTK.out]; exact I.out, HB.out, fun i hi => by
       rcases Nat.lt_or_ge i k with h_ | h_
       ·exact HPR.out i h_
       ·obtain rfl : i = k := by omega
        rw [← HLk.out, ← HM.out]; exact HE.out⟩⟩
     case measure => simp [intOf]; omega
    ·have hTK := Aside0.mk (show Lk.take m = Lk from if_neg hlt)
     have hc : m.ok = false ∨ (m.ok = true ∧ decide (Lk.seq < m.seq) = false) := by
      cases hq : m.ok
      ·exact .inl rfl
      ·exact .inr ⟨rfl, decide_eq_false (fun h_ => hlt ⟨hq, h_⟩)⟩
     clear hlt
     have I := HL6
     have HB := HB6
     clear HL6 HB6
     rcases hc with b1 | ⟨b1, b2⟩
     ·simp only [b1]
      clear y3 c3 BXn b1
      refine start_ (n := 10) (S := fun w' => True) (ds := []) #[false, false, false, false, false, false, false, false, false, false] (by kernel_rfl) rfl rfl trivial (fun hHeld => ?_)
      refine with_tabW wlop10.tab10 wlop10.bits10 (fun HT_ HW_ => ?_)
      have n0_ := Aside0.mk (I.out.below (below_drew (Below.refl _ _)))
      have n2_ := Aside0.mk (below_drew HB.out)
      clear I HB
      generalize World.drew _ = wd at n0_ n2_ hHeld ⊢
      have I := n0_
      have HB := n2_
      clear hHeld n0_ n2_
      refine inv_at [0, 1, 2, 3, 4, 5, 6, 7, 8, 9] (fun a0_ b a w' => a = putSel a0_ b [(0, 58, .bool false), (1, 59, .bool false), (2, 60, undef), (3, 61, undef), (4, 62, undef), (5, 63, undef), (6, 64, undef), (7, 65, undef), (8, 66, undef), (9, 67, .bool false)] ∧ (Lg w0 w' p g S Lk M) ∧ (Below w.heap.size w w')) HT_.out HW_.out (by kernel_rfl) (by kernel_rfl) ?_ ?_ ?_
      ·exact ⟨by simp only [putSel, Bool.false_eq_true, if_false], I.out, HB.out⟩
      ·skip
       clear HB I
       refine steps_cons ?_ ?_
       ·rintro b a w' ⟨ha, Q_I, Q_HB⟩ hb_ hon hoff
        refine ⟨_, rfl, fun K hK => ?_⟩
        have e11 : a.tmps[11]? = some (.bool false) := by rw [ha]; exact (putSel_off rfl).trans rfl
        replace ha := Aside0.mk ha
        have I := Aside0.mk Q_I
        have HB := Aside0.mk Q_HB
        refine value_ (w1 := w') (v := .bool false) (by rfl) rfl ?_ ?_
        ·go_simp
         (try simp only [i64_w])
         try rfl
        refine hK.out _ _ ⟨(by rw [ha.out]; exact putSel_upk 0 hb_ rfl rfl rfl), Q_I, Q_HB⟩
       refine steps_cons ?_ ?_
       ·rintro b a w' ⟨ha, Q_I, Q_HB⟩ hb_ hon hoff
        refine ⟨_, rfl, fun K hK => ?_⟩
        have e58 : a.tmps[58]? = some (.bool false) := by rw [ha]; exact putSel_on (e := (0, 58, .bool false)) 0 rfl rfl (hon 0 (by kernel_rfl)) rfl
        replace ha := Aside0.mk ha
        have I := Aside0.mk Q_I
        have HB := Aside0.mk Q_HB
        refine value_ (w1 := w') (v := .bool false) (by rfl) rfl ?_ ?_
        ·go_simp
         (try simp only [i64_w])
         try rfl
        refine hK.out _ _ ⟨(by rw [ha.out]; exact putSel_upk 1 hb_ rfl rfl rfl), Q_I, Q_HB⟩
       refine steps_cons ?_ ?_
       ·rintro b a w' ⟨ha, Q_I, Q_HB⟩ hb_ hon hoff
        refine ⟨_, rfl, fun K hK => ?_⟩
        have e59 : a.tmps[59]? = some (.bool false) := by rw [ha]; exact putSel_on (e := (1, 59, .bool false)) 1 rfl rfl (hon 1 (by kernel_rfl)) rfl
        replace ha := Aside0.mk ha
        have I := Aside0.mk Q_I
        have HB := Aside0.mk Q_HB
        refine off_ (wanted_off rfl rfl rfl (e59.trans (by first | rfl | (simp [*]; done)))) ?_
        refine hK.out _ _ ⟨(by rw [ha.out]; exact putSel_upk 2 hb_ rfl rfl rfl), Q_I, Q_HB⟩
       refine steps_cons ?_ ?_
       ·rintro b a w' ⟨ha, Q_I, Q_HB⟩ hb_ hon hoff
        refine ⟨_, rfl, fun K hK => ?_⟩
        have e59 : a.tmps[59]? = some (.bool false) := by rw [ha]; exact putSel_on (e := (1, 59, .bool false)) 1 rfl rfl (hon 1 (by kernel_rfl)) rfl
        replace ha := Aside0.mk ha
        have I := Aside0.mk Q_I
        have HB := Aside0.mk Q_HB
        refine off_ (wanted_off rfl rfl rfl (e59.trans (by first | rfl | (simp [*]; done)))) ?_
        refine hK.out _ _ ⟨(by rw [ha.out]; exact putSel_upk 3 hb_ rfl rfl rfl), Q_I, Q_HB⟩
       refine steps_cons ?_ ?_
       ·rintro b a w' ⟨ha, Q_I, Q_HB⟩ hb_ hon hoff
        refine ⟨_, rfl, fun K hK => ?_⟩
        have e59 : a.tmps[59]? = some (.bool false) := by rw [ha]; exact putSel_on (e := (1, 59, .bool false)) 1 rfl rfl (hon 1 (by kernel_rfl)) rfl
        replace ha := Aside0.mk ha
        have I := Aside0.mk Q_I
        have HB := Aside0.mk Q_HB
        refine off_ (wanted_off rfl rfl rfl (e59.trans (by first | rfl | (simp [*]; done)))) ?_
        refine hK.out _ _ ⟨(by rw [ha.out]; exact putSel_upk 4 hb_ rfl rfl rfl), Q_I, Q_HB⟩
       refine steps_cons ?_ ?_
       ·rintro b a w' ⟨ha, Q_I, Q_HB⟩ hb_ hon hoff
        refine ⟨_, rfl, fun K hK => ?_⟩
        have e59 : a.tmps[59]? = some (.bool false) := by rw [ha]; exact putSel_on (e := (1, 59, .bool false)) 1 rfl rfl (hon 1 (by kernel_rfl)) rfl
        replace ha := Aside0.mk ha
        have I := Aside0.mk Q_I
        have HB := Aside0.mk Q_HB
        refine off_ (wanted_off rfl rfl rfl (e59.trans (by first | rfl | (simp [*]; done)))) ?_
        refine hK.out _ _ ⟨(by rw [ha.out]; exact putSel_upk 5 hb_ rfl rfl rfl), Q_I, Q_HB⟩
       refine steps_cons ?_ ?_
       ·rintro b a w' ⟨ha, Q_I, Q_HB⟩ hb_ hon hoff
        refine ⟨_, rfl, fun K hK => ?_⟩
        have e59 : a.tmps[59]? = some (.bool false) := by rw [ha]; exact putSel_on (e := (1, 59, .bool false)) 1 rfl rfl (hon 1 (by kernel_rfl)) rfl
        replace ha := Aside0.mk ha
        have I := Aside0.mk Q_I
        have HB := Aside0.mk Q_HB
        refine off_ (wanted_off rfl rfl rfl (e59.trans (by first | rfl | (simp [*]; done)))) ?_
        refine hK.out _ _ ⟨(by rw [ha.out]; exact putSel_upk 6 hb_ rfl rfl rfl), Q_I, Q_HB⟩
       refine steps_cons ?_ ?_
       ·rintro b a w' ⟨ha, Q_I, Q_HB⟩ hb_ hon hoff
        refine ⟨_, rfl, fun K hK => ?_⟩
        have e59 : a.tmps[59]? = some (.bool false) := by rw [ha]; exact putSel_on (e := (1, 59, .bool false)) 1 rfl rfl (hon 1 (by kernel_rfl)) rfl
        replace ha := Aside0.mk ha
        have I := Aside0.mk Q_I
        have HB := Aside0.mk Q_HB
        refine off_ (wanted_off rfl rfl rfl (e59.trans (by first | rfl | (simp [*]; done)))) ?_
        refine hK.out _ _ ⟨(by rw [ha.out]; exact putSel_upk 7 hb_ rfl rfl rfl), Q_I, Q_HB⟩
       refine steps_cons ?_ ?_
       ·rintro b a w' ⟨ha, Q_I, Q_HB⟩ hb_ hon hoff
        refine ⟨_, rfl, fun K hK => ?_⟩
        have e59 : a.tmps[59]? = some (.bool false) := by rw [ha]; exact putSel_on (e := (1, 59, .bool false)) 1 rfl rfl (hon 1 (by kernel_rfl)) rfl
        replace ha := Aside0.mk ha
        have I := Aside0.mk Q_I
        have HB := Aside0.mk Q_HB
        refine off_ (wanted_off rfl rfl rfl (e59.trans (by first | rfl | (simp [*]; done)))) ?_
        refine hK.out _ _ ⟨(by rw [ha.out]; exact putSel_upk 8 hb_ rfl rfl rfl), Q_I, Q_HB⟩
       refine steps_cons ?_ ?_
       ·rintro b a w' ⟨ha, Q_I, Q_HB⟩ hb_ hon hoff
        refine ⟨_, rfl, fun K hK => ?_⟩
        have e59 : a.tmps[59]? = some (.bool false) := by rw [ha]; exact putSel_on (e := (1, 59, .bool false)) 1 rfl rfl (hon 1 (by kernel_rfl)) rfl
        have e66 : a.tmps[66]? = some (undef) := by rw [ha]; exact putSel_on (e := (8, 66, undef)) 8 rfl rfl (hon 8 (by kernel_rfl)) rfl
        replace ha := Aside0.mk ha
        have I := Aside0.mk Q_I
        have HB := Aside0.mk Q_HB
        refine value_ (w1 := w') (v := .bool false) (by rfl) rfl ?_ ?_
        ·go_simp
         (try simp only [i64_w])
         try rfl
        refine hK.out _ _ ⟨(by rw [ha.out]; exact putSel_upk 9 hb_ rfl rfl rfl), Q_I, Q_HB⟩
       exact steps_nil
      rintro b a w' hall ⟨ha, Q_I, Q_HB⟩
      clear HB I
      have hb0_ := hall 0 (by kernel_rfl)
      have hb1_ := hall 1 (by kernel_rfl)
      have hb2_ := hall 2 (by kernel_rfl)
      have hb3_ := hall 3 (by kernel_rfl)
      have hb4_ := hall 4 (by kernel_rfl)
      have hb5_ := hall 5 (by kernel_rfl)
      have hb6_ := hall 6 (by kernel_rfl)
      have hb7_ := hall 7 (by kernel_rfl)
      have hb8_ := hall 8 (by kernel_rfl)
      have hb9_ := hall 9 (by kernel_rfl)
      subst ha
      simp only [putSel, hb0_, hb1_, hb2_, hb3_, hb4_, hb5_, hb6_, hb7_, hb8_, hb9_, if_true, Act.put, List.setIfInBounds_toArray, List.set_cons_zero, List.set_cons_succ]
      have I := Aside0.mk Q_I
      clear Q_I
      have HB := Aside0.mk Q_HB
      clear Q_HB
      clear hall hb0_ hb1_ hb2_ hb3_ hb4_ hb5_ hb6_ hb7_ hb8_ hb9_
      go_wp2
      go_roundw
      case rel =>
       exact ⟨k + 1, by omega, by go_num, ⟨by show Lg w0 _ p g S ((L0.msK M k).take ((L0.msK M k).ms M k)) M; rw [← HLk.out, ← HM.out, hTK.out]; exact I.out, HB.out, fun i hi => by
        rcases Nat.lt_or_ge i k with h_ | h_
        ·exact HPR.out i h_
        ·obtain rfl : i = k := by omega
         rw [← HLk.out, ← HM.out]; exact HE.out⟩⟩
      case measure => simp [intOf]; omega
     ·go_quiet (fail)
      have I2 := Aside0.mk (I.out.below (below_drewN w6 nq))
      have HB2 := Aside0.mk (below_step HB.out (below_drewN w6 nq))
      clear y3 c3 I HB BXn
      generalize w6.drewN nq = w7 at I2 HB2 ⊢
      have I := I2
      have HB := HB2
      clear I2 HB2
      go_wp2
      go_roundw
      case rel =>
       exact ⟨k + 1, by omega, by go_num, ⟨by show Lg w0 _ p g S ((L0.msK M k).take ((L0.msK M k).ms M k)) M; rw [← HLk.out, ← HM.out, hTK.out]; exact I.out, HB.out, fun i hi => by
        rcases Nat.lt_or_ge i k with h_ | h_
        ·exact HPR.out i h_
        ·obtain rfl : i = k := by omega
         rw [← HLk.out, ← HM.out]; exact HE.out⟩⟩
      case measure => simp [intOf]; omega
   ·have e0 : (m.e != 0) = true := by simpa using he
    have HEn := Aside0.mk he
    clear he
    go_wp2
    go_ret2
    refine OpP.no HD.out (below_alloc HB5.out _) ?_
    rw [HR.out]
    have hme := HEn.out
    rw [HM.out, HLk.out] at hme ⊢
    rcases Nat.eq_zero_or_pos k with rfl | hk0
    ·exact if_pos hme
    ·obtain rfl : k = 1 := by omega
     exact (if_neg (fun h_ => h_ (HPR.out 0 (by omega)))).trans (if_pos hme)
  ·obtain rfl : k = 2 := by omega
   have HREL2 := HREL.out.1
   obtain ⟨L2, hL2⟩ : ∃ L, L = L0.msK M 2 := ⟨_, rfl⟩
   rw [← hL2] at HREL2
   have HLg := Aside0.mk HREL2
   have HBw := Aside0.mk HREL.out.2.1
   have HMS := Aside0.mk HREL.out.2.2
   have HFit := Aside0.mk (show L2.Fit by rw [hL2]; exact msK_fit hY (by rw [HL0.out]; exact ⟨⟨Int.le_refl _, by show (0 : Int) ≤ _; decide⟩, ⟨Int.le_refl _, by show (0 : Int) ≤ _; decide⟩, ⟨Int.le_refl _, by show (0 : Int) ≤ _; decide⟩, ⟨Int.le_refl _, by show (0 : Int) ≤ _; decide⟩⟩) 2)
   have HGeo := Aside0.mk (show L2.fr = fr ∧ L2.ring = n - 2 ∧ L2.next = 0 ∧ L2.forced = 0 by have h_ := msK_geo L0 M 2; rw [← hL2] at h_; have h2_ := HL0.out; rw [h2_] at h_; exact h_)
   have HR2 := Aside0.mk (show R = L2.opn2 M (L2.scan M (L2.ring + 1).toNat L2.start L2.floor) by
    rw [HR.out, hL2, (msK_geo L0 M 2).2.1]
    exact (if_neg (fun h_ => h_ (HMS.out 0 (by omega)))).trans (if_neg (fun h_ => h_ (HMS.out 1 (by omega)))))
   clear HREL HREL2 hL2 hk2 hk HMS hfr HL0 HR
   have c5 := HLg.out.all.2.2.2.2.2.1
   have c6 := HLg.out.all.2.2.2.2.2.2.1
   have c7 := HLg.out.all.2.2.2.2.2.2.2.1
   have f7 : wr.frozen? ⟨p, 7, none⟩ = false := blk_frozen HLg.out.B 7
   have HLn := Aside0.mk (show Lg w0 (wr.setCell ⟨p, 7, none⟩ (.int .u64 L2.start)) p g S { L2 with next := L2.start } M from HLg.out.setw rfl)
   have HBn := Aside0.mk (show Below w.heap.size w (wr.setCell ⟨p, 7, none⟩ (.int .u64 L2.start)) from below_set HBw.out hpw.out)
   obtain ⟨SC, hSC⟩ : ∃ s, s = L2.scan M (L2.ring + 1).toNat L2.start L2.floor := ⟨_, rfl⟩
   rw [← hSC] at HR2
   have HSC := Aside0.mk hSC
   clear hSC HLg HBw
   go_wp2
   clear c5 c6 c7 f7
   generalize wr.setCell _ _ = wc at HLn HBn ⊢
   go_loopw [13] (fun v13 wr2 => ∃ (nx lf : Int), v13 = .int .u64 lf ∧ Aside0 (Lg w0 wr2 p g S { L2 with next := nx } M ∧ Below w.heap.size w wr2 ∧ (L2.start ≤ nx ∧ nx ≤ L2.start + L2.ring) ∧ (0 ≤ lf ∧ lf < 18446744073709551616) ∧ (∃ k, (L2.ring - (nx - L2.start)).toNat + 1 ≤ k ∧ L2.scan M k nx lf = SC))) (fun _ wr2 => (L2.start + L2.ring - nxOf p wr2).toNat)
   case atStart =>
    exact ⟨L2.start, L2.floor, rfl, ⟨HLn.out, HBn.out, ⟨Int.le_refl _, by have := HGeo.out.2.1; have := HG.out; omega⟩, ⟨HFit.out.f.1, by have := HFit.out.f.2; omega⟩, ⟨_, by have := HGeo.out.2.1; have := HG.out; omega, HSC.out.symm⟩⟩⟩
   case round =>
    obtain ⟨nx, lf, rfl, hrel⟩ := hrel
    clear HLn HBn HSC
    have HL := Aside0.mk hrel.out.1
    have HB := Aside0.mk hrel.out.2.1
    have HN := Aside0.mk hrel.out.2.2.1
    have HLF := Aside0.mk hrel.out.2.2.2.1
    obtain ⟨kf, hkf, hsc⟩ := hrel.out.2.2.2.2
    obtain ⟨kf, rfl⟩ : ∃ k, kf = k + 1 := ⟨kf - 1, by omega⟩
    have HKF := Aside0.mk hkf
    rw [scan_succ] at hsc
    clear hkf
    have HOk := Aside0.mk (show LA.Ok { L2 with next := nx } M.now.length from by
     have a1 := HGeo.out
     have a2 := HG.out
     have a3 := HFit.out
     have a4 := HN.out
     exact { f0 := (by show 0 ≤ L2.fr; omega), r0 := (by show 0 < L2.ring; omega), fn := (by show L2.fr + 2 + L2.ring ≤ _; omega), n6 := a2.2.2.2, q0 := a3.q.1, q1 := (by have := a3.q.2; show L2.seq ≤ _; omega), l0 := a3.l.1, l1 := (by have := a3.l.2; show L2.life ≤ _; omega), s0 := a3.s.1, o0 := a3.f.1, o1 := (by have := a3.f.2; show L2.floor ≤ _; omega), sn := a4.1, nr := a4.2, nx := (by have := a3.s.2; show nx ≤ _; omega), c0 := (by show 0 ≤ L2.forced; omega), c1 := (by have := a3.s.1; show L2.forced ≤ nx; omega) })
    have c7 : wr.cell? ⟨p, 7, none⟩ = some (.int .u64 nx) := HL.out.cell 7 _ rfl
    have HNX := Aside0.mk (show nxOf p wr = nx by unfold nxOf; rw [c7]; rfl)
    clear hrel
    go_wp2_with fail
    refine (entry_l HL.out HOk.out hY nx lf HN.out.1 HN.out.2 HLF.out.1 HLF.out.2).mono ?_
    rw [entry_next]
    rintro e w5 ⟨vv, rfl, _, hb⟩
    obtain ⟨E, hE⟩ : ∃ E, E = L2.entry M nx lf := ⟨_, rfl⟩
    have hfit : E.ok = true → nx < E.next ∧ E.next ≤ L2.start + L2.ring ∧ 0 ≤ E.life ∧ E.life < 18446744073709551616 := by rw [hE]; exact fun h_ => entry_fit hY h_ HN.out.2
    rw [← hE] at hsc ⊢
    have HFI := Aside0.mk hfit
    have HL5 := Aside0.mk (HL.out.below hb)
    have HB5 := Aside0.mk (below_step HB.out hb)
    clear HL HB hE hfit hb c7
    by_cases he : E.e = 0
    case neg =>
     have e0 : (E.e != 0) = true := by simpa using he
     rw [if_pos he] at hsc
     have HSCe := Aside0.mk hsc
     have HEe := Aside0.mk he
     clear he hsc
     go_wp2
     go_ret2
     refine OpP.no HD.out HB5.out ?_
     rw [HR2.out, ← HSCe.out]
     exact if_pos HEe.out
    case pos =>
     have e0 : (E.e != 0) = false := by simp [he]
     rw [if_neg (fun h_ => h_ he)] at hsc
     by_cases hok : E.ok = true
     ·rw [if_pos hok] at hsc
      have HSCe := Aside0.mk hsc
      have HFe := Aside0.mk (HFI.out hok)
      have c7 : w5.cell? ⟨p, 7, none⟩ = some (.int .u64 nx) := HL5.out.cell 7 _ rfl
      have f7 : w5.frozen? ⟨p, 7, none⟩ = false := blk_frozen HL5.out.B 7
      have HL6 := Aside0.mk (show Lg w0 (w5.setCell ⟨p, 7, none⟩ (.int .u64 E.next)) p g S { L2 with next := E.next } M from HL5.out.setw rfl)
      have HB6 := Aside0.mk (show Below w.heap.size w (w5.setCell ⟨p, 7, none⟩ (.int .u64 E.next)) from below_set HB5.out hpw.out)
      clear hsc he
      go_wp2
      refine ⟨?_, ?_⟩
      rotate_left
      ·rw [show nxOf p (w5.setCell ⟨p, 7, none⟩ (.int .u64 E.next)) = E.next by unfold nxOf; rw [show (w5.setCell ⟨p, 7, none⟩ (.int .u64 E.next)).cell? ⟨p, 7, none⟩ = some (.int .u64 E.next) from HL6.out.cell 7 _ rfl]; rfl, HNX.out]
       have := HFe.out
       omega
      ·(repeat apply Exists.intro)
       refine ⟨⟨E.next, E.life, rfl, ⟨HL6.out, HB6.out, ⟨by have := HFe.out.1; have := HN.out.1; omega, HFe.out.2.1⟩, HFe.out.2.2, ⟨kf, by have h3 := HN.out; have h4 := HFe.out; have h5 := HKF.out; omega, HSCe.out⟩⟩⟩, rfl⟩
     ·rw [if_neg hok] at hsc
      have HSCe := Aside0.mk hsc
      have hok2 : E.ok = false := by simpa using hok
      have c4 : w5.cell? ⟨p, 4, none⟩ = some (.int .u64 L2.life) := HL5.out.cell 4 _ rfl
      have f4 : w5.frozen? ⟨p, 4, none⟩ = false := blk_frozen HL5.out.B 4
      have hlf0 := HLF.out
      have hlf1 := HFit.out.l
      clear hsc hok he
      by_cases hmx : L2.life < lf
      ·have e24 : decide (L2.life < lf) = true := decide_eq_true hmx
       have hif : (if L2.life < lf then lf else L2.life) = lf := if_pos hmx
       have hmax2 : mxI L2.life lf = lf := if_pos hmx
       have HMX := Aside0.mk hmax2
       clear hmax2 hmx
       by_cases hml : 1099511627776 ≤ lf
       ·have e25 : decide (1099511627776 ≤ lf) = true := decide_eq_true hml
        have HML := Aside0.mk hml
        clear hml
        go_wp2
        go_ret2
        refine OpP.no HD.out (below_set HB5.out hpw.out) ?_
        rw [HR2.out, ← HSCe.out]
        show L2.opn2 M _ = _
        unfold LA.opn2
        rw [if_neg (fun h_ => h_ rfl), HMX.out, if_pos HML.out]
       ·have e25 : decide (1099511627776 ≤ lf) = false := decide_eq_false hml
        have HML := Aside0.mk hml
        have hlb := hlf0
        have e26 : IntKind.u64.wrap (lf + 1) = lf + 1 := wu64 (by skip; omega) (by omega)
        have HL6 := Aside0.mk (show Lg w0 ((w5.setCell ⟨p, 4, none⟩ (.int .u64 lf)).setCell ⟨p, 4, none⟩ (.int .u64 (lf + 1))) p g S { L2 with next := nx, life := lf + 1 } M from
         (show Lg w0 (w5.setCell ⟨p, 4, none⟩ (.int .u64 lf)) p g S { L2 with next := nx, life := lf } M from HL5.out.setw rfl).setw rfl)
        have HB6 := Aside0.mk (below_set (below_set HB5.out hpw.out (j := 4) (v := .int .u64 lf)) hpw.out (j := 4) (v := .int .u64 (lf + 1)))
        clear hml hlb
        go_upto_region 24 with fail
        generalize World.setCell _ _ _ = w6 at HL6 HB6 ⊢
        have HLi := Aside0.mk hlf0
        by_cases hns : nx = L2.start
        ·have e27 : (nx == L2.start) = true := by simp [hns]
         have HFin := Aside0.mk (show R = ⟨some (L2.fin ⟨nx, lf, 0⟩ (lf)).up, (L2.fin ⟨nx, lf, 0⟩ (lf)).mkE M, (L2.fin ⟨nx, lf, 0⟩ (lf)).mkM M⟩ by
          rw [HR2.out, ← HSCe.out]
          show L2.opn2 M _ = _
          unfold LA.opn2
          rw [if_neg (fun h_ => h_ rfl), HMX.out, if_neg (by have := HML.out; omega)])
         have HFE := Aside0.mk (show L2.fin ⟨nx, lf, 0⟩ (lf) = { L2 with next := nx, life := lf + 1, floor := lf + 1, forced := nx } by unfold LA.fin; rw [if_pos hns])
         have c5 := HL6.out.all.2.2.2.2.2.1
         have c7 := HL6.out.all.2.2.2.2.2.2.2.1
         clear hns
         go_quiet (fail)
         have HL7 := Aside0.mk (HL6.out.below (below_drewN w6 nq))
         have HB7 := Aside0.mk (below_step HB6.out (below_drewN w6 nq))
         clear c5 c7 HL6 HB6
         generalize w6.drewN nq = w7 at HL7 HB7 ⊢
         have c4b := HL7.out.all.2.2.2.2.1
         have c6b := HL7.out.all.2.2.2.2.2.2.1
         have c7b := HL7.out.all.2.2.2.2.2.2.2.1
         have c8b := HL7.out.all.2.2.2.2.2.2.2.2
         have f6b : w7.frozen? ⟨p, 6, none⟩ = false := blk_frozen HL7.out.B 6
         have f8b : w7.frozen? ⟨p, 8, none⟩ = false := blk_frozen HL7.out.B 8
         have HL8 := Aside0.mk (show Lg w0 ((w7.setCell ⟨p, 6, none⟩ (.int .u64 (lf + 1))).setCell ⟨p, 8, none⟩ (.int .u64 nx)) p g S (L2.fin ⟨nx, lf, 0⟩ (lf)) M from by
          rw [HFE.out]
          exact (show Lg w0 (w7.setCell ⟨p, 6, none⟩ (.int .u64 (lf + 1))) p g S { L2 with next := nx, life := lf + 1, floor := lf + 1 } M from HL7.out.setw rfl).setw rfl)
         have HB8 := Aside0.mk (show Below w.heap.size w ((w7.setCell ⟨p, 6, none⟩ (.int .u64 (lf + 1))).setCell ⟨p, 8, none⟩ (.int .u64 nx)) from below_set (below_set HB7.out hpw.out) hpw.out)
         go_wp2_with fail
         clear c4b c6b c7b c8b f6b f8b
         generalize ((w7.setCell ⟨p, 6, none⟩ (.int .u64 (lf + 1))).setCell ⟨p, 8, none⟩ (.int .u64 nx)) = w8 at HL8 HB8 ⊢
         have HNm := Aside0.mk (show (L2.fin ⟨nx, lf, 0⟩ (lf)).up.Nm by
          rw [HFE.out]
          have a1 := HGeo.out
          have a2 := HG.out
          have a3 := HFit.out
          have a4 := HLi.out
          have a5 := HML.out
          have a6 := HMX.out
          exact ⟨⟨by show 0 ≤ L2.fr; omega, by show L2.fr ≤ 65536; omega⟩, ⟨by have := a3.q; show 0 ≤ L2.seq + 1; omega, by have := a3.q; show L2.seq + 1 < _; omega⟩, ⟨by have := a3.l; show 0 ≤ lf + 1; omega, by show lf + 1 < _; omega⟩, ⟨a3.s.1, by have := a3.s.2; show L2.start < _; omega⟩, ⟨by have := a3.l; show 0 ≤ lf + 1; omega, by show lf + 1 < _; omega⟩⟩)
         refine (mark_l HL8.out HNm.out (by rw [HFE.out]; exact HFit.out.q.1) (by omega)).mono ?_
         rintro e w9 ⟨rfl, S', hl, hs, hkp⟩
         have HF := Aside0.mk hl
         have HSs := Aside0.mk hs
         have HKK := Aside0.mk ((Dk.Kept.of_below HB8.out S).then_ hkp (fun k h => h.elim .inl (fun h2 => .inr (by rw [h2]; exact hpw.out))))
         clear hl hs hkp
         go_wp2
         go_ret2
         rw [HFin.out]
         exact ⟨_, rfl, HKK.out, .inr ⟨p, S', _, rfl, rfl, hpw.out, HF.out, fun k hk => (HSs.out k hk).imp id (fun h => Nat.le_trans HB8.out.size h)⟩⟩
        ·have e27 : (nx == L2.start) = false := by simp [hns]
         have HFin := Aside0.mk (show R = ⟨some (L2.fin ⟨nx, lf, 0⟩ (lf)).up, (L2.fin ⟨nx, lf, 0⟩ (lf)).mkE M, (L2.fin ⟨nx, lf, 0⟩ (lf)).mkM M⟩ by
          rw [HR2.out, ← HSCe.out]
          show L2.opn2 M _ = _
          unfold LA.opn2
          rw [if_neg (fun h_ => h_ rfl), HMX.out, if_neg (by have := HML.out; omega)])
         have HFE := Aside0.mk (show L2.fin ⟨nx, lf, 0⟩ (lf) = { L2 with next := nx, life := lf + 1, forced := nx } by unfold LA.fin; rw [if_neg hns])
         have c5 := HL6.out.all.2.2.2.2.2.1
         have c7 := HL6.out.all.2.2.2.2.2.2.2.1
         clear hns
         go_quiet (fail)
         have HL7 := Aside0.mk (HL6.out.below (below_drewN w6 nq))
         have HB7 := Aside0.mk (below_step HB6.out (below_drewN w6 nq))
         clear c5 c7 HL6 HB6
         generalize w6.drewN nq = w7 at HL7 HB7 ⊢
         have c4b := HL7.out.all.2.2.2.2.1
         have c6b := HL7.out.all.2.2.2.2.2.2.1
         have c7b := HL7.out.all.2.2.2.2.2.2.2.1
         have c8b := HL7.out.all.2.2.2.2.2.2.2.2
         have f6b : w7.frozen? ⟨p, 6, none⟩ = false := blk_frozen HL7.out.B 6
         have f8b : w7.frozen? ⟨p, 8, none⟩ = false := blk_frozen HL7.out.B 8
         have HL8 := Aside0.mk (show Lg w0 (w7.setCell ⟨p, 8, none⟩ (.int .u64 nx)) p g S (L2.fin ⟨nx, lf, 0⟩ (lf)) M from by
          rw [HFE.out]
          exact HL7.out.setw rfl)
         have HB8 := Aside0.mk (show Below w.heap.size w (w7.setCell ⟨p, 8, none⟩ (.int .u64 nx)) from below_set HB7.out hpw.out)
         go_wp2_with fail
         clear c4b c6b c7b c8b f6b f8b
         generalize (w7.setCell ⟨p, 8, none⟩ (.int .u64 nx)) = w8 at HL8 HB8 ⊢
         have HNm := Aside0.mk (show (L2.fin ⟨nx, lf, 0⟩ (lf)).up.Nm by
          rw [HFE.out]
          have a1 := HGeo.out
          have a2 := HG.out
          have a3 := HFit.out
          have a4 := HLi.out
          have a5 := HML.out
          have a6 := HMX.out
          exact ⟨⟨by show 0 ≤ L2.fr; omega, by show L2.fr ≤ 65536; omega⟩, ⟨by have := a3.q; show 0 ≤ L2.seq + 1; omega, by have := a3.q; show L2.seq + 1 < _; omega⟩, ⟨by have := a3.l; show 0 ≤ lf + 1; omega, by show lf + 1 < _; omega⟩, ⟨a3.s.1, by have := a3.s.2; show L2.start < _; omega⟩, ⟨a3.f.1, by have := a3.f.2; show L2.floor < _; omega⟩⟩)
         refine (mark_l HL8.out HNm.out (by rw [HFE.out]; exact HFit.out.q.1) (by omega)).mono ?_
         rintro e w9 ⟨rfl, S', hl, hs, hkp⟩
         have HF := Aside0.mk hl
         have HSs := Aside0.mk hs
         have HKK := Aside0.mk ((Dk.Kept.of_below HB8.out S).then_ hkp (fun k h => h.elim .inl (fun h2 => .inr (by rw [h2]; exact hpw.out))))
         clear hl hs hkp
         go_wp2
         go_ret2
         rw [HFin.out]
         exact ⟨_, rfl, HKK.out, .inr ⟨p, S', _, rfl, rfl, hpw.out, HF.out, fun k hk => (HSs.out k hk).imp id (fun h => Nat.le_trans HB8.out.size h)⟩⟩
      ·have e24 : decide (L2.life < lf) = false := decide_eq_false hmx
       have hif : (if L2.life < lf then lf else L2.life) = L2.life := if_neg hmx
       have hmax2 : mxI L2.life lf = L2.life := if_neg hmx
       have HMX := Aside0.mk hmax2
       clear hmax2 hmx
       by_cases hml : 1099511627776 ≤ L2.life
       ·have e25 : decide (1099511627776 ≤ L2.life) = true := decide_eq_true hml
        have HML := Aside0.mk hml
        clear hml
        go_wp2
        go_ret2
        refine OpP.no HD.out (below_set HB5.out hpw.out) ?_
        rw [HR2.out, ← HSCe.out]
        show L2.opn2 M _ = _
        unfold LA.opn2
        rw [if_neg (fun h_ => h_ rfl), HMX.out, if_pos HML.out]
       ·have e25 : decide (1099511627776 ≤ L2.life) = false := decide_eq_false hml
        have HML := Aside0.mk hml
        have hlb := hlf0
        have e26 : IntKind.u64.wrap (L2.life + 1) = L2.life + 1 := wu64 (by skip; omega) (by omega)
        have HL6 := Aside0.mk (show Lg w0 ((w5.setCell ⟨p, 4, none⟩ (.int .u64 L2.life)).setCell ⟨p, 4, none⟩ (.int .u64 (L2.life + 1))) p g S { L2 with next := nx, life := L2.life + 1 } M from
         (show Lg w0 (w5.setCell ⟨p, 4, none⟩ (.int .u64 L2.life)) p g S { L2 with next := nx, life := L2.life } M from HL5.out.setw rfl).setw rfl)
        have HB6 := Aside0.mk (below_set (below_set HB5.out hpw.out (j := 4) (v := .int .u64 L2.life)) hpw.out (j := 4) (v := .int .u64 (L2.life + 1)))
        clear hml hlb
        go_upto_region 24 with fail
        generalize World.setCell _ _ _ = w6 at HL6 HB6 ⊢
        have HLi := Aside0.mk hlf0
        by_cases hns : nx = L2.start
        ·have e27 : (nx == L2.start) = true := by simp [hns]
         have HFin := Aside0.mk (show R = ⟨some (L2.fin ⟨nx, lf, 0⟩ (L2.life)).up, (L2.fin ⟨nx, lf, 0⟩ (L2.life)).mkE M, (L2.fin ⟨nx, lf, 0⟩ (L2.life)).mkM M⟩ by
          rw [HR2.out, ← HSCe.out]
          show L2.opn2 M _ = _
          unfold LA.opn2
          rw [if_neg (fun h_ => h_ rfl), HMX.out, if_neg (by have := HML.out; omega)])
         have HFE := Aside0.mk (show L2.fin ⟨nx, lf, 0⟩ (L2.life) = { L2 with next := nx, life := L2.life + 1, floor := L2.life + 1, forced := nx } by unfold LA.fin; rw [if_pos hns])
         have c5 := HL6.out.all.2.2.2.2.2.1
         have c7 := HL6.out.all.2.2.2.2.2.2.2.1
         clear hns
         go_quiet (fail)
         have HL7 := Aside0.mk (HL6.out.below (below_drewN w6 nq))
         have HB7 := Aside0.mk (below_step HB6.out (below_drewN w6 nq))
         clear c5 c7 HL6 HB6
         generalize w6.drewN nq = w7 at HL7 HB7 ⊢
         have c4b := HL7.out.all.2.2.2.2.1
         have c6b := HL7.out.all.2.2.2.2.2.2.1
         have c7b := HL7.out.all.2.2.2.2.2.2.2.1
         have c8b := HL7.out.all.2.2.2.2.2.2.2.2
         have f6b : w7.frozen? ⟨p, 6, none⟩ = false := blk_frozen HL7.out.B 6
         have f8b : w7.frozen? ⟨p, 8, none⟩ = false := blk_frozen HL7.out.B 8
         have HL8 := Aside0.mk (show Lg w0 ((w7.setCell ⟨p, 6, none⟩ (.int .u64 (L2.life + 1))).setCell ⟨p, 8, none⟩ (.int .u64 nx)) p g S (L2.fin ⟨nx, lf, 0⟩ (L2.life)) M from by
          rw [HFE.out]
          exact (show Lg w0 (w7.setCell ⟨p, 6, none⟩ (.int .u64 (L2.life + 1))) p g S { L2 with next := nx, life := L2.life + 1, floor := L2.life + 1 } M from HL7.out.setw rfl).setw rfl)
         have HB8 := Aside0.mk (show Below w.heap.size w ((w7.setCell ⟨p, 6, none⟩ (.int .u64 (L2.life + 1))).setCell ⟨p, 8, none⟩ (.int .u64 nx)) from below_set (below_set HB7.out hpw.out) hpw.out)
         go_wp2_with fail
         clear c4b c6b c7b c8b f6b f8b
         generalize ((w7.setCell ⟨p, 6, none⟩ (.int .u64 (L2.life + 1))).setCell ⟨p, 8, none⟩ (.int .u64 nx)) = w8 at HL8 HB8 ⊢
         have HNm := Aside0.mk (show (L2.fin ⟨nx, lf, 0⟩ (L2.life)).up.Nm by
          rw [HFE.out]
          have a1 := HGeo.out
          have a2 := HG.out
          have a3 := HFit.out
          have a4 := HLi.out
          have a5 := HML.out
          have a6 := HMX.out
          exact ⟨⟨by show 0 ≤ L2.fr; omega, by show L2.fr ≤ 65536; omega⟩, ⟨by have := a3.q; show 0 ≤ L2.seq + 1; omega, by have := a3.q; show L2.seq + 1 < _; omega⟩, ⟨by have := a3.l; show 0 ≤ L2.life + 1; omega, by show L2.life + 1 < _; omega⟩, ⟨a3.s.1, by have := a3.s.2; show L2.start < _; omega⟩, ⟨by have := a3.l; show 0 ≤ L2.life + 1; omega, by show L2.life + 1 < _; omega⟩⟩)
         refine (mark_l HL8.out HNm.out (by rw [HFE.out]; exact HFit.out.q.1) (by omega)).mono ?_
         rintro e w9 ⟨rfl, S', hl, hs, hkp⟩
         have HF := Aside0.mk hl
         have HSs := Aside0.mk hs
         have HKK := Aside0.mk ((Dk.Kept.of_below HB8.out S).then_ hkp (fun k h => h.elim .inl (fun h2 => .inr (by rw [h2]; exact hpw.out))))
         clear hl hs hkp
         go_wp2
         go_ret2
         rw [HFin.out]
         exact ⟨_, rfl, HKK.out, .inr ⟨p, S', _, rfl, rfl, hpw.out, HF.out, fun k hk => (HSs.out k hk).imp id (fun h => Nat.le_trans HB8.out.size h)⟩⟩
        ·have e27 : (nx == L2.start) = false := by simp [hns]
         have HFin := Aside0.mk (show R = ⟨some (L2.fin ⟨nx, lf, 0⟩ (L2.life)).up, (L2.fin ⟨nx, lf, 0⟩ (L2.life)).mkE M, (L2.fin ⟨nx, lf, 0⟩ (L2.life)).mkM M⟩ by
          rw [HR2.out, ← HSCe.out]
          show L2.opn2 M _ = _
          unfold LA.opn2
          rw [if_neg (fun h_ => h_ rfl), HMX.out, if_neg (by have := HML.out; omega)])
         have HFE := Aside0.mk (show L2.fin ⟨nx, lf, 0⟩ (L2.life) = { L2 with next := nx, life := L2.life + 1, forced := nx } by unfold LA.fin; rw [if_neg hns])
         have c5 := HL6.out.all.2.2.2.2.2.1
         have c7 := HL6.out.all.2.2.2.2.2.2.2.1
         clear hns
         go_quiet (fail)
         have HL7 := Aside0.mk (HL6.out.below (below_drewN w6 nq))
         have HB7 := Aside0.mk (below_step HB6.out (below_drewN w6 nq))
         clear c5 c7 HL6 HB6
         generalize w6.drewN nq = w7 at HL7 HB7 ⊢
         have c4b := HL7.out.all.2.2.2.2.1
         have c6b := HL7.out.all.2.2.2.2.2.2.1
         have c7b := HL7.out.all.2.2.2.2.2.2.2.1
         have c8b := HL7.out.all.2.2.2.2.2.2.2.2
         have f6b : w7.frozen? ⟨p, 6, none⟩ = false := blk_frozen HL7.out.B 6
         have f8b : w7.frozen? ⟨p, 8, none⟩ = false := blk_frozen HL7.out.B 8
         have HL8 := Aside0.mk (show Lg w0 (w7.setCell ⟨p, 8, none⟩ (.int .u64 nx)) p g S (L2.fin ⟨nx, lf, 0⟩ (L2.life)) M from by
          rw [HFE.out]
          exact HL7.out.setw rfl)
         have HB8 := Aside0.mk (show Below w.heap.size w (w7.setCell ⟨p, 8, none⟩ (.int .u64 nx)) from below_set HB7.out hpw.out)
         go_wp2_with fail
         clear c4b c6b c7b c8b f6b f8b
         generalize (w7.setCell ⟨p, 8, none⟩ (.int .u64 nx)) = w8 at HL8 HB8 ⊢
         have HNm := Aside0.mk (show (L2.fin ⟨nx, lf, 0⟩ (L2.life)).up.Nm by
          rw [HFE.out]
          have a1 := HGeo.out
          have a2 := HG.out
          have a3 := HFit.out
          have a4 := HLi.out
          have a5 := HML.out
          have a6 := HMX.out
          exact ⟨⟨by show 0 ≤ L2.fr; omega, by show L2.fr ≤ 65536; omega⟩, ⟨by have := a3.q; show 0 ≤ L2.seq + 1; omega, by have := a3.q; show L2.seq + 1 < _; omega⟩, ⟨by have := a3.l; show 0 ≤ L2.life + 1; omega, by show L2.life + 1 < _; omega⟩, ⟨a3.s.1, by have := a3.s.2; show L2.start < _; omega⟩, ⟨a3.f.1, by have := a3.f.2; show L2.floor < _; omega⟩⟩)
         refine (mark_l HL8.out HNm.out (by rw [HFE.out]; exact HFit.out.q.1) (by omega)).mono ?_
         rintro e w9 ⟨rfl, S', hl, hs, hkp⟩
         have HF := Aside0.mk hl
         have HSs := Aside0.mk hs
         have HKK := Aside0.mk ((Dk.Kept.of_below HB8.out S).then_ hkp (fun k h => h.elim .inl (fun h2 => .inr (by rw [h2]; exact hpw.out))))
         clear hl hs hkp
         go_wp2
         go_ret2
         rw [HFin.out]
         exact ⟨_, rfl, HKK.out, .inr ⟨p, S', _, rfl, rfl, hpw.out, HF.out, fun k hk => (HSs.out k hk).imp id (fun h => Nat.le_trans HB8.out.size h)⟩⟩
end
end Go.Proofs.Ytihmfccpgahmaaa.Wal
