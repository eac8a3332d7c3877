/- The law WalRounds: what one round makes of the log and the disk. Plain Lean. No conditions beyond those that are named. -/
import Derived.Test.YtihmfccpgahmaaaWalGoodC
namespace Go.Proofs.Ytihmfccpgahmaaa.Wal
open Go Go.RowKit
open Go.Proofs.YtihmfccpgahmaaaW.PrintWords hiding Kept Kept.refl
open Go.Proofs.YtihmfccpgahmaaaW.PrintMore Go.Proofs.YtihmfccpgahmaaaW.PrintLast Go.Proofs.Ytihmfccpgahmaaa.Dk Go.Proofs.Ytihmfccpgahmaaa.Q Go.Proofs.Ytihmfccpgahmaaa.Str Go.Proofs.Ytihmfccpgahmaaa.Leb
set_option linter.unusedVariables false
set_option linter.unusedSimpArgs false
theorem lies_ok {R : Int → Part} {life : Int} : ∀ (k : Nat) (n : Int) (r : List Int), lies R life k n r → ∀ m, n ≤ m → m < n + needN r.length → (R m).ok = true ∧ (R m).e = 0
  | 0, _, _, h => h.elim
  | k + 1, n, r, h => fun m a b => by
    by_cases hm : m = n
    · rw [hm, h.1]; exact ⟨rfl, rfl⟩
    · by_cases hl : r.length ≤ 480
      · rw [needN_one hl] at b; omega
      · exact lies_ok k (n + 1) (r.drop 480) (h.2 (by omega)) m (by omega) (by rw [List.length_drop]; have := needN_more (show 480 < r.length by omega); omega)
section
variable {M : DA} {N : Nat} {L : LA}
theorem rd_apart {m n : Int} (h : (L.rd M n).ok = true) (hp : L.pl m = L.pl n) (hne : m ≠ n) : (L.rd M m).ok = false ∧ (L.rd M m).e = 0 := by
  unfold LA.rd at h ⊢
  rw [hp]
  by_cases he : M.rdE (L.pl n) = 0
  · rw [if_pos he] at h ⊢
    refine ⟨?_, rfl⟩
    unfold prt at h ⊢
    dsimp only at h ⊢
    rw [Bool.and_eq_true] at h
    have h2 := eq_of_beq h.2
    rw [Bool.and_eq_false_iff]
    right
    rw [beq_eq_false_iff_ne, h2]
    omega
  · rw [if_neg he] at h
    split at h <;> cases h
/-- Behind the log's end no part stands. -/
def Fresh (L : LA) (M : DA) : Prop := ∀ m, L.next ≤ m → (L.rd M m).ok = false ∧ (L.rd M m).e = 0
theorem fresh_app {l : List Int} {M' : DA} (hg : Geo L N) (h : AppG L M N (needN l.length) l ⟨{ L with next := L.next + needN l.length }, M', 0⟩) (hf : Fresh L M) : ∀ m, L.next + needN l.length ≤ m → (L.rd M' m).ok = false ∧ (L.rd M' m).e = 0 := by
  intro m hm
  obtain ⟨p0, p1, _⟩ := hg.pl m
  by_cases hx : ∃ n, (L.next ≤ n ∧ n < L.next + needN l.length) ∧ L.pl n = L.pl m
  · obtain ⟨n, ⟨a, b⟩, c⟩ := hx
    exact rd_apart (lies_ok _ _ _ h.s n a b).1 c.symm (by omega)
  · have := rd_cong (h.o _ p0 p1 (fun n a b c => hx ⟨n, ⟨a, b⟩, c⟩))
    have h2 : L.rd M' m = L.rd M m := this
    rw [h2]
    exact hf m (by omega)
/-- The state between two rounds. -/
structure RI (ring : Nat) (i : Nat) (L : LA) (M : DA) : Prop where
  fr : L.fr = 0
  rg : L.ring = ring
  lf : L.life = 1
  st : L.start = L.next
  n0 : 0 ≤ L.next
  n1 : L.next ≤ 2 * i
  q0 : 0 ≤ L.seq
  q1 : L.seq ≤ 1 + i
  o : L.floor = 1
  fo : L.forced = L.next
  Y : DY M
  m : Mas L M
  g : Gd M (ring + 2)
  w : M.wait.length ≤ 1
  f : Fresh L M
theorem RI.bd {ring i : Nat} (h : RI ring i L M) (hi : i ≤ 1000) : Bd L := by
  have := h.lf; have := h.st; have := h.n0; have := h.n1; have := h.q0; have := h.q1; have := h.o
  constructor <;> omega
theorem RI.ok {ring i : Nat} (h : RI ring i L M) (hi : i ≤ 1000) (hr : 2 ≤ ring ∧ ring ≤ 17) : L.Ok M.now.length := by
  have := h.lf; have := h.st; have := h.n0; have := h.n1; have := h.q0; have := h.q1; have := h.o; have := h.fr; have := h.rg; have := h.fo
  rw [h.g.n]
  constructor <;> omega
theorem RI.new {ring : Nat} (hr : 2 ≤ ring ∧ ring ≤ 17) : (opn (DA.new (newN (ring + 2 : Nat)).toNat) 0 (ring + 2 : Nat)).e = 0 ∧ ∃ L, (opn (DA.new (newN (ring + 2 : Nat)).toNat) 0 (ring + 2 : Nat)).L = some L ∧ RI ring 0 L (opn (DA.new (newN (ring + 2 : Nat)).toNat) 0 (ring + 2 : Nat)).M := by
  obtain ⟨hg, hz⟩ := new_gd ((ring + 2 : Nat) : Int) (by omega) (by omega)
  rw [Int.toNat_natCast] at hg
  have hY := opn_DY (M := DA.new (newN (ring + 2 : Nat)).toNat) (new_DY _) 0 (ring + 2 : Nat)
  have hw := opn_wait (M := DA.new (newN (ring + 2 : Nat)).toNat) 0 (ring + 2 : Nat)
  have hw0 : (DA.new (newN (ring + 2 : Nat)).toNat).wait.length = 0 := rfl
  have hO := opn_fresh hg (by omega) (fr := 0) (n := (ring + 2 : Nat)) (by omega) (by omega) (by omega) (fun j a b => hz j a (by omega))
  generalize DA.new (newN (ring + 2 : Nat)).toNat = M at hg hz hY hw hw0 hO ⊢
  have hm : ∀ k : Int, 0 ≤ k → k < 2 → ∀ L : LA, L.fr = 0 → L.ms M k = mst zeros k := fun k a b L hL => by
    obtain ⟨q1, q2⟩ := hz (0 + k) (by omega) (by omega)
    unfold LA.ms; rw [hL, if_pos q1, q2]
  obtain ⟨L0, hL0, a1, a2, a3, a4, a5, a6, a7, a8⟩ : ∃ L0 : LA, L0 = ⟨0, ((ring + 2 : Nat) : Int) - 2, 0, 1, 0, 1, 0, 0⟩ ∧ L0.fr = 0 ∧ L0.ring = ring ∧ L0.seq = 0 ∧ L0.life = 1 ∧ L0.start = 0 ∧ L0.floor = 1 ∧ L0.next = 0 ∧ L0.forced = 0 :=
    ⟨_, rfl, rfl, show ((ring + 2 : Nat) : Int) - 2 = ring by omega, rfl, rfl, rfl, rfl, rfl, rfl⟩
  have eU : (⟨0, ((ring + 2 : Nat) : Int) - 2, 1, 1, 0, 1, 0, 0⟩ : LA) = L0.up := by rw [hL0]; rfl
  clear hL0
  have b0 : Bd L0 := by constructor <;> omega
  have hms : L0.ms M (L0.seq % 2) = mst zeros (L0.seq % 2) := hm _ (by omega) (by omega) _ a1
  obtain ⟨m1, m2, m3, m4, m5⟩ := mark_good hg b0 (⟨by rw [hms]; rfl, fun c => by rw [hms, ms_zeros] at c; cases c⟩ : Old L0 M) (by omega) (by omega) (by omega)
  have hN : L0.up.Nm := ⟨⟨show 0 ≤ L0.fr by omega, show L0.fr ≤ 65536 by omega⟩, ⟨show 0 ≤ L0.seq + 1 by omega, show L0.seq + 1 < 18446744073709551616 by omega⟩, ⟨show 0 ≤ L0.life by omega, show L0.life < 18446744073709551616 by omega⟩, ⟨show 0 ≤ L0.start by omega, show L0.start < 18446744073709551616 by omega⟩, ⟨show 0 ≤ L0.floor by omega, show L0.floor < 18446744073709551616 by omega⟩⟩
  have hI : L0.mkI = 0 + 1 := by show L0.fr + (L0.seq + 1) % 2 = _; omega
  have e : (M.wr (0 + 1) (⟨0, ((ring + 2 : Nat) : Int) - 2, 1, 1, 0, 1, 0, 0⟩ : LA).mb).sy = L0.mkM M := by
    rw [(hg.mark hN (by omega) (by omega)).2.1, hI, eU]
  rw [hO] at hY hw ⊢
  dsimp only at hY hw ⊢
  rw [e] at hY hw ⊢
  rw [eU]
  refine ⟨rfl, _, rfl, ⟨a1, a2, a4, show L0.start = L0.next by omega, show 0 ≤ L0.next by omega, show L0.next ≤ 2 * ((0 : Nat) : Int) by omega, show 0 ≤ L0.seq + 1 by omega, show L0.seq + 1 ≤ 1 + ((0 : Nat) : Int) by omega, a6, show L0.forced = L0.next by omega, hY, m3, m2, by omega, ?_⟩⟩
  intro m hmm
  have hmm0 : L0.next ≤ m := hmm
  obtain ⟨p0, p1, p2⟩ := (show Geo L0 (ring + 2) from ⟨by omega, by omega, by omega, by omega, by omega⟩).pl m
  obtain ⟨q1, q2⟩ := m5 (L0.pl m) p2 p1
  obtain ⟨q3, q4⟩ := hz (L0.pl m) p0 p1
  show (L0.rd (L0.mkM M) m).ok = false ∧ (L0.rd (L0.mkM M) m).e = 0
  unfold LA.rd
  rw [if_pos (q1.trans q3), q2, q4]
  exact prt_zeros m (by omega)
/-- One round: what is appended is there, and is cut. -/
theorem RI.round {ring i : Nat} (h : RI ring i L M) (hi : i ≤ 128) (hr : 2 ≤ ring ∧ ring ≤ 17) {b : List Int} (hb : Byt b) (hl : b.length ≤ 511) :
    ∃ (L1 L2 L3 : LA) (M1 M2 M3 : DA), L.append M b = ⟨L.next, 0, L1, M1⟩ ∧ (L1.Ok M1.now.length ∧ DY M1 ∧ M1.wait.length ≤ 100 ∧ L1.alls M1 L1.start = [(L.next, b)]) ∧
      L1.cut M1 L.next = ⟨0, L2, M2⟩ ∧ (L2.Ok M2.now.length ∧ DY M2 ∧ M2.wait.length ≤ 100) ∧ L2.cut M2 L2.next = ⟨0, L3, M3⟩ ∧ L3.alls M3 L3.start = [] ∧ L3.free = ring ∧ RI ring (i + 1) L3 M3 := by
  have hst := h.st
  have hn0 := h.n0
  have hn1 := h.n1
  have hrg := h.rg
  have hfr := h.fr
  have hlf := h.lf
  have hg : Geo L (ring + 2) := ⟨by omega, by omega, by omega, by omega, by omega⟩
  have hne : needN b.length ≤ 2 := by unfold needN; omega
  have hnp := needN_pos b.length
  obtain ⟨M1, e1, hA⟩ := append_good (l := b) h.g hg hn0 (by omega) (by unfold LA.free; omega) (by omega) (by omega)
  have hp := append_ok' L M hb
  have hk1 := append_Ok (h.ok (by omega) hr) hb (by omega)
  rw [e1] at hp hk1
  have hY1 : DY M1 := hp.1.y h.Y
  have hw1 : M1.wait.length ≤ 100 := by have : M1.wait.length ≤ M.wait.length + 40 := hp.1.w; have := h.w; omega
  obtain ⟨L1, hL1⟩ : ∃ L1 : LA, L1 = { L with next := L.next + needN b.length } := ⟨_, rfl⟩
  rw [← hL1] at e1 hk1
  have f1 : L1.start = L.next := by rw [hL1]; exact hst
  have f2 : L1.next = L.next + needN b.length := by rw [hL1]
  have f3 : L1.ring = ring := by rw [hL1]; exact hrg
  have f4 : L1.fr = 0 := by rw [hL1]; exact hfr
  have f5 : L1.seq = L.seq := by rw [hL1]
  have f6 : L1.life = 1 := by rw [hL1]; exact hlf
  have f7 : L1.floor = 1 := by rw [hL1]; exact h.o
  have hE : Ents (L1.rd M1) L1.start 0 ([] ++ [(L.life, b)]) L1.next := by
    have := append_ents (es := []) (a := L.next) (lf := 0) hg hb hA rfl (by omega) (by omega) (by show (0 : Int) ≤ _; omega)
    rw [f1, hL1]
    exact this
  have hall := alls_ents (L := L1) (M := M1) (by omega) hE
  have g1 : Gd M1 (ring + 2) := hA.g
  have hfr1 := fresh_app hg hA h.f
  have hfr1' : Fresh L1 M1 := by
    intro m hm
    rw [f2] at hm
    rw [hL1]
    exact hfr1 m hm
  have m1 : Mas L1 M1 := by
    have : Mas L M1 := h.m.frame (fun n a c => hA.o _ (by omega) (by omega) (fun m x y hpl => by have := (hg.pl m).2.2; omega))
    rw [hL1]
    exact ⟨this.a, this.e, this.o, this.q⟩
  have hc1 : L1.cut M1 L.next = ⟨0, { L1 with forced := L1.next }, (L1.force M1).M⟩ := by
    have := cut_start (L := L1) (M := M1) g1 (by omega)
    rw [← f1]
    exact this
  obtain ⟨c1, c2, c3, c4⟩ := force_good (L := L1) g1
  have hk2 := force_ok (M := M1) hk1
  rw [c2] at hk2
  have hY2 := force_DY (L := L1) hY1
  have hw2 := force_wait (L := L1) (M := M1)
  have hn2 : (L1.force M1).M.now.length = M1.now.length := by rw [c3.n, g1.n]
  generalize (L1.force M1).M = M2 at *
  obtain ⟨L2, hL2⟩ : ∃ L2 : LA, L2 = { L1 with forced := L1.next } := ⟨_, rfl⟩
  rw [← hL2] at hc1 hk2
  have m2 : Mas L2 M2 := by
    have : Mas L1 M2 := m1.frame (fun n a c => c4 _ (by omega) (by omega))
    rw [hL2]
    exact ⟨this.a, this.e, this.o, this.q⟩
  have k1 : L2.start = L.next := by rw [hL2]; exact f1
  have k2 : L2.next = L.next + needN b.length := by rw [hL2]; exact f2
  have k3 : L2.ring = ring := by rw [hL2]; exact f3
  have k4 : L2.fr = 0 := by rw [hL2]; exact f4
  have k5 : L2.seq = L.seq := by rw [hL2]; exact f5
  have k6 : L2.life = 1 := by rw [hL2]; exact f6
  have k7 : L2.floor = 1 := by rw [hL2]; exact f7
  have hq0 := h.q0
  have hq1 := h.q1
  obtain ⟨M3, e3, g3, m3, w3, r3⟩ := cut_end (L := L2) c3 (by constructor <;> omega) m2 (by omega) (by omega) (by omega) (by omega) (by omega)
  have hY3 : DY M3 := by
    have := hk2
    have hcY : DY (L2.cut M2 L2.next).M := by
      unfold LA.cut
      split
      · exact hY2
      · split
        · exact force_DY hY2
        · unfold LA.cut2
          split
          · exact force_DY hY2
          · split
            · split
              · exact force_DY hY2
              · exact mkM_DY (force_DY hY2)
            · exact mkM_DY (force_DY hY2)
    rw [e3] at hcY
    exact hcY
  obtain ⟨L3, hL3⟩ : ∃ L3 : LA, L3 = (({ L2 with forced := L2.next } : LA).at_ L2.next |>.fl L2.life).up := ⟨_, rfl⟩
  rw [← hL3] at e3 m3
  have j1 : L3.start = L2.next := by rw [hL3]; rfl
  have j2 : L3.next = L2.next := by rw [hL3]; rfl
  have j3 : L3.ring = ring := by rw [hL3]; exact k3
  have j4 : L3.fr = 0 := by rw [hL3]; exact k4
  have j5 : L3.seq = L.seq + 1 := by rw [hL3, ← k5]; rfl
  have j6 : L3.life = 1 := by rw [hL3]; exact k6
  have j7 : L3.floor = 1 := by rw [hL3]; exact k6
  have j8 : L3.forced = L2.next := by rw [hL3]; rfl
  refine ⟨L1, L2, L3, M1, M2, M3, e1, ⟨hk1, hY1, hw1, ?_⟩, hc1, ⟨by rw [hn2]; exact hk2, hY2, by omega⟩, e3, ?_, ?_, ?_⟩
  · rw [hall, f1]; rfl
  · have := alls_ents (L := L3) (M := M3) (es := []) (a := L3.start) (by omega) (show L3.start = L3.next by omega)
    exact this
  · unfold LA.free; omega
  · refine ⟨j4, j3, j6, by omega, by omega, by omega, by omega, by omega, j7, by omega, hY3, m3, g3, by rw [w3]; decide, ?_⟩
    intro m hm
    have hx := hfr1' m (by omega)
    have e : L3.rd M3 m = L1.rd M1 m := by
      have p : L3.pl m = L1.pl m := by unfold LA.pl; rw [j3, j4, f3, f4]
      obtain ⟨p0, p1, p2⟩ := (show Geo L1 (ring + 2) from ⟨by omega, by omega, by omega, by omega, by omega⟩).pl m
      have q := r3 (L1.pl m) (by omega) p1
      have q2 := c4 (L1.pl m) p0 p1
      unfold LA.rd
      rw [p, q.1, q.2, q2.1, q2.2]
    rw [e]
    exact hx
/-- Opened again. -/
theorem RI.opn {ring i : Nat} (h : RI ring i L M) (hi : i ≤ 1000) (hr : 2 ≤ ring ∧ ring ≤ 17) : ∃ L', opn M 0 (ring + 2 : Nat) = ⟨some L', 0, (opn M 0 (ring + 2 : Nat)).M⟩ ∧ L'.life = 2 ∧ L'.start = L.start ∧ L'.next = L.next := by
  have hn0 := h.n0
  have hn1 := h.n1
  have hst := h.st
  have hfr := h.fr
  have hrg := h.rg
  have hlf := h.lf
  have ho := h.o
  obtain ⟨e, _⟩ := opn_mas h.g (by omega) h.m (h.bd hi) (by omega) (by omega) (by omega) (es := []) (z := L.start) rfl (by omega) (fun _ => by have := h.f L.start (by omega); exact ⟨this.2, .inl this.1⟩) (by show mxI L.life L.floor < _; unfold mxI; split <;> omega)
  rw [hfr, show L.ring + 2 = ((ring + 2 : Nat) : Int) by omega] at e
  rw [e]
  refine ⟨_, rfl, ?_, rfl, ?_⟩
  · show mxI L.life L.floor + 1 = 2
    unfold mxI; split <;> omega
  · show L.start = L.next
    exact hst
end
end Go.Proofs.Ytihmfccpgahmaaa.Wal
