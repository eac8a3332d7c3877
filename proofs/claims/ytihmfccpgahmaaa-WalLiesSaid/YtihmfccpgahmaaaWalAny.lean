/- A log on whatever stands on a disk that works: what Open finds, and that what is appended comes behind it. Plain Lean. No conditions beyond those that are named. -/
import Derived.Test.YtihmfccpgahmaaaWalCr
namespace Go.Proofs.Ytihmfccpgahmaaa.Wal
open Go Go.RowKit
open Go.Proofs.YtihmfccpgahmaaaW.PrintWords hiding Kept Kept.refl
open Go.Proofs.YtihmfccpgahmaaaW.PrintMore Go.Proofs.YtihmfccpgahmaaaW.PrintLast Go.Proofs.Ytihmfccpgahmaaa.Dk Go.Proofs.Ytihmfccpgahmaaa.Q Go.Proofs.Ytihmfccpgahmaaa.Str Go.Proofs.Ytihmfccpgahmaaa.Leb
set_option linter.unusedVariables false
set_option linter.unusedSimpArgs false
def EN (R : Int → Part) (ring start a lf : Int) : Ent := entR R a (ring - (a - start)).toNat a lf []
theorem entry_EN (L : LA) (M : DA) (a lf : Int) : L.entry M a lf = EN (L.rd M) L.ring L.start a lf := ent_R L M a _ a lf []
theorem entR_e {R : Int → Part} (h : ∀ m, (R m).e = 0) (lsn : Int) : ∀ (k : Nat) (n lf : Int) (out : List Int), (entR R lsn k n lf out).e = 0
  | 0, _, _, _ => rfl
  | k + 1, n, lf, out => by
    rw [entR_succ]
    split
    · exact h n
    · split
      · rfl
      · exact entR_e h lsn k _ _ _
theorem entR_fit {R : Int → Part} (lsn : Int) : ∀ (k : Nat) (n lf : Int) (out : List Int), (entR R lsn k n lf out).ok = true → n < (entR R lsn k n lf out).next ∧ (entR R lsn k n lf out).next ≤ n + k
  | 0, _, _, _, h => by cases h
  | k + 1, n, lf, out, h => by
    rw [entR_succ] at h ⊢
    split at h
    · cases h
    · rename_i h1
      rw [if_neg h1]
      split at h
      · rename_i h2
        rw [if_pos h2]
        exact ⟨by show n < n + 1; omega, by show n + 1 ≤ n + ((k + 1 : Nat) : Int); omega⟩
      · rename_i h2
        rw [if_neg h2]
        have := entR_fit lsn k _ _ _ h
        omega
theorem entR_frame {R R' : Int → Part} (lsn : Int) : ∀ (k : Nat) (n lf : Int) (out : List Int), (entR R lsn k n lf out).ok = true → (∀ m, n ≤ m → m < (entR R lsn k n lf out).next → R' m = R m) → entR R' lsn k n lf out = entR R lsn k n lf out
  | 0, _, _, _, h, _ => by cases h
  | k + 1, n, lf, out, h, hf => by
    have hfit := entR_fit lsn (k + 1) n lf out h
    have h0 := hf n (Int.le_refl _) hfit.1
    rw [entR_succ] at h hf ⊢
    rw [entR_succ, h0]
    split at h
    · cases h
    · rename_i h1
      rw [if_neg h1] at hf ⊢
      rw [if_neg h1]
      split at h
      · rename_i h2
        rw [if_pos h2, if_pos h2]
      · rename_i h2
        rw [if_neg h2] at hf ⊢
        rw [if_neg h2]
        exact entR_frame lsn k _ _ _ h (fun m a b => hf m (by omega) b)
theorem EN_weak {R : Int → Part} {ring start a lf lf' : Int} (h : (EN R ring start a lf).ok = true) (hl : lf' ≤ lf) : EN R ring start a lf' = EN R ring start a lf := by
  unfold EN at h ⊢
  generalize (ring - (a - start)).toNat = k at h ⊢
  cases k with
  | zero => cases h
  | succ k =>
    rw [entR_succ] at h ⊢
    rw [entR_succ]
    split at h
    · cases h
    · rename_i h1
      have hb := bad_ok h1
      have h2 : ¬ (R a).bad a a lf' := by
        unfold Part.bad
        rintro (c | c | c | c)
        · exact c hb.1
        · rw [hb.2.1] at c; cases c
        · have := hb.2.2.1; omega
        · omega
      rw [if_neg h1, if_neg h2]
theorem EN_life {R : Int → Part} {ring start a lf : Int} (h : (EN R ring start a lf).ok = true) : lf ≤ (EN R ring start a lf).life := by
  unfold EN at h ⊢
  generalize (ring - (a - start)).toNat = k at h ⊢
  have go : ∀ (k : Nat) (n lf : Int) (out : List Int), (entR R a k n lf out).ok = true → lf ≤ (entR R a k n lf out).life := by
    intro k
    induction k with
    | zero => intro n lf out h; cases h
    | succ k ih =>
      intro n lf out h
      rw [entR_succ] at h ⊢
      split at h
      · cases h
      · rename_i h1
        have hb := (bad_ok h1).2.2.1
        rw [if_neg h1]
        split at h
        · rename_i h2
          rw [if_pos h2]; exact hb
        · rename_i h2
          rw [if_neg h2]
          exact Int.le_trans hb (ih _ _ _ h)
  exact go k _ _ _ h
/-- Entries one behind the other, to number z, of lives that aren't younger than lam. -/
def Chn (R : Int → Part) (ring start z lam : Int) : Int → Int → List (Int × List Int) → Prop
  | a, lf, [] => a = z ∧ lf ≤ lam
  | a, lf, x :: t => x = (a, (EN R ring start a lf).b) ∧ (EN R ring start a lf).ok = true ∧ Chn R ring start z lam (EN R ring start a lf).next (EN R ring start a lf).life t
theorem Chn.weak {R : Int → Part} {ring start z lam a lf lf' : Int} : ∀ {t : List (Int × List Int)}, Chn R ring start z lam a lf t → lf' ≤ lf → Chn R ring start z lam a lf' t
  | [], h, hl => ⟨h.1, Int.le_trans hl h.2⟩
  | x :: t, h, hl => by
    have e := EN_weak h.2.1 hl
    show x = (a, (EN R ring start a lf').b) ∧ (EN R ring start a lf').ok = true ∧ Chn R ring start z lam (EN R ring start a lf').next (EN R ring start a lf').life t
    rw [e]
    exact h
theorem Chn.le {R : Int → Part} {ring start z lam : Int} : ∀ (t : List (Int × List Int)) (a lf : Int), Chn R ring start z lam a lf t → a + t.length ≤ z
  | [], a, lf, h => by have := h.1; simp; omega
  | x :: t, a, lf, h => by
    have := Chn.le t _ _ h.2.2
    have := (entR_fit _ _ _ _ _ h.2.1).1
    have h2 : a < (EN R ring start a lf).next := this
    rw [List.length_cons]
    omega
theorem Chn.frame {R R' : Int → Part} {ring start z lam : Int} : ∀ (t : List (Int × List Int)) (a lf : Int), Chn R ring start z lam a lf t → (∀ m, a ≤ m → m < z → R' m = R m) → Chn R' ring start z lam a lf t
  | [], a, lf, h, _ => h
  | x :: t, a, lf, h, hf => by
    have hle := Chn.le t _ _ h.2.2
    have hlt : a < (EN R ring start a lf).next := (entR_fit _ _ _ _ _ h.2.1).1
    have e : EN R' ring start a lf = EN R ring start a lf := entR_frame _ _ _ _ _ h.2.1 (fun m m0 m1 => hf m m0 (by
      have m2 : m < (EN R ring start a lf).next := m1
      omega))
    show x = (a, (EN R' ring start a lf).b) ∧ (EN R' ring start a lf).ok = true ∧ Chn R' ring start z lam (EN R' ring start a lf).next (EN R' ring start a lf).life t
    rw [e]
    exact ⟨h.1, h.2.1, Chn.frame t _ _ h.2.2 (fun m m0 m1 => hf m (by omega) m1)⟩
theorem Chn.snoc {R : Int → Part} {ring start z z' lam lam' : Int} {b : List Int} (hn : ∀ lf, lf ≤ lam → (EN R ring start z lf).b = b ∧ (EN R ring start z lf).ok = true ∧ (EN R ring start z lf).next = z' ∧ (EN R ring start z lf).life ≤ lam') : ∀ (t : List (Int × List Int)) (a lf : Int), Chn R ring start z lam a lf t → Chn R ring start z' lam' a lf (t ++ [(z, b)])
  | [], a, lf, h => by
    obtain ⟨q1, q2, q3, q4⟩ := hn lf h.2
    have e : a = z := h.1
    rw [e]
    exact ⟨by rw [q1], q2, q3, q4⟩
  | x :: t, a, lf, h => ⟨h.1, h.2.1, Chn.snoc hn t _ _ h.2.2⟩
section
variable {M : DA} {N : Nat} {L : LA}
theorem all_chn {lam : Int} (he : ∀ m, (L.rd M m).e = 0) : ∀ (t : List (Int × List Int)) (k : Nat) (a lf : Int), Chn (L.rd M) L.ring L.start L.next lam a lf t → t.length < k → L.all M k a lf = t
  | [], k + 1, a, lf, h, _ => by rw [all_succ, if_neg (by have := h.1; omega)]
  | x :: t, k + 1, a, lf, h, hk => by
    have hle := Chn.le t _ _ h.2.2
    have hlt : a < (EN (L.rd M) L.ring L.start a lf).next := (entR_fit _ _ _ _ _ h.2.1).1
    rw [all_succ, if_pos (by omega), entry_EN, if_neg (by
      rintro (c | c)
      · exact c (entR_e he _ _ _ _ _)
      · rw [h.2.1] at c; cases c), all_chn he t k _ _ h.2.2 (by simpa using hk), ← h.1]
theorem alls_chn {lam lf : Int} (he : ∀ m, (L.rd M m).e = 0) {t : List (Int × List Int)} (h : Chn (L.rd M) L.ring L.start L.next lam L.start lf t) (hl : 0 ≤ lf) : L.alls M L.start = t := by
  have := Chn.le _ _ _ h
  exact all_chn he t _ _ 0 (h.weak hl) (by omega)
theorem scan_chn (he : ∀ m, (L.rd M m).e = 0) : ∀ (k : Nat) (a lf : Int), (L.scan M k a lf).e = 0 ∧ lf ≤ (L.scan M k a lf).life ∧ ∃ t, Chn (L.rd M) L.ring L.start (L.scan M k a lf).next (L.scan M k a lf).life a lf t
  | 0, a, lf => ⟨rfl, Int.le_refl _, [], rfl, Int.le_refl _⟩
  | k + 1, a, lf => by
    rw [scan_succ, entry_EN, if_neg (fun c => c (entR_e he _ _ _ _ _))]
    by_cases hk : (EN (L.rd M) L.ring L.start a lf).ok = true
    · rw [if_pos hk]
      obtain ⟨q1, q2, t, q3⟩ := scan_chn he k (EN (L.rd M) L.ring L.start a lf).next (EN (L.rd M) L.ring L.start a lf).life
      exact ⟨q1, Int.le_trans (EN_life hk) q2, _ :: t, rfl, hk, q3⟩
    · rw [if_neg hk]
      exact ⟨rfl, Int.le_refl _, [], rfl, Int.le_refl _⟩
theorem ms_zero (hg : Gd M N) {n : Int} (h0 : 0 ≤ L.fr + n) (h1 : L.fr + n < N) : (L.ms M n).e = 0 := by
  have := rdE_good hg h0 h1
  rcases (show M.rdE (L.fr + n) = 9 ∨ M.rdE (L.fr + n) = 0 by rw [this]; split; exact .inl rfl; exact .inr rfl) with e | e
  · unfold LA.ms
    rw [if_neg (by rw [e]; decide), if_pos e]
  · unfold LA.ms
    rw [if_pos e]
    rfl
/-- A log that was opened on whatever stands there, and that may bear more. -/
structure AI (N : Nat) (L : LA) (M : DA) (lam : Int) (t : List (Int × List Int)) : Prop where
  g : Gd M N
  Y : DY M
  G : Geo L N
  k : L.Ok N
  s1 : L.start ≤ 4611686018427387903
  t : Chn (L.rd M) L.ring L.start L.next lam L.start 0 t
  l0 : 0 ≤ lam
  l1 : lam ≤ L.life
theorem AI.alls {lam : Int} {t : List (Int × List Int)} (h : AI N L M lam t) : L.alls M L.start = t := alls_chn (rdE_zero h.g h.G) h.t (Int.le_refl _)
theorem opn_any (hg : Gd M N) (hY : DY M) (h6 : N ≤ 65536) {fr n : Int} (h1 : 2 < n) (h2 : 0 ≤ fr) (h3 : n ≤ (N : Int) - fr) : ((opn M fr n).L = none ∧ (opn M fr n).e = 3) ∨ ∃ L lam t, (opn M fr n).L = some L ∧ (opn M fr n).e = 0 ∧ AI N L (opn M fr n).M lam t := by
  have hgeo := fun k => msK_geo (⟨fr, n - 2, 0, 0, 0, 0, 0, 0⟩ : LA) M k
  have hms : ∀ k : Nat, ∀ j : Int, 0 ≤ j → j < 2 → (((⟨fr, n - 2, 0, 0, 0, 0, 0, 0⟩ : LA).msK M k).ms M j).e = 0 := fun k j a b => by
    have e : ((⟨fr, n - 2, 0, 0, 0, 0, 0, 0⟩ : LA).msK M k).fr = fr := (hgeo k).1
    exact ms_zero hg (by omega) (by omega)
  obtain ⟨L2, hL2⟩ : ∃ L2, L2 = (⟨fr, n - 2, 0, 0, 0, 0, 0, 0⟩ : LA).msK M 2 := ⟨_, rfl⟩
  have hfit := msK_fit (L := ⟨fr, n - 2, 0, 0, 0, 0, 0, 0⟩) hY ⟨⟨Int.le_refl _, by show (0 : Int) ≤ _; decide⟩, ⟨Int.le_refl _, by show (0 : Int) ≤ _; decide⟩, ⟨Int.le_refl _, by show (0 : Int) ≤ _; decide⟩, ⟨Int.le_refl _, by show (0 : Int) ≤ _; decide⟩⟩ 2
  obtain ⟨g1, g2, _, _⟩ := hgeo 2
  rw [← hL2] at g1 g2 hfit
  replace g1 : L2.fr = fr := g1
  replace g2 : L2.ring = n - 2 := g2
  have hG2 : Geo L2 N := ⟨by omega, by omega, by omega, hfit.l.1, hfit.l.2⟩
  have he2 : ∀ m, (L2.rd M m).e = 0 := fun m => rdE_zero hg hG2 m
  obtain ⟨s1, s2, t, s3⟩ := scan_chn (L := L2) he2 (n - 2 + 1).toNat L2.start L2.floor
  have hok := fun L h => opn_ok (L := L) hY (by rw [hg.n]; exact h6) (fr := fr) (n := n) h
  have hdy := opn_DY hY fr n
  have e : opn M fr n = L2.opn2 M (L2.scan M (n - 2 + 1).toNat L2.start L2.floor) := by
    unfold opn
    rw [if_neg (by rw [hg.n]; omega)]
    unfold LA.opn1
    rw [if_neg (fun c => c (hms 0 0 (by omega) (by omega))), if_neg (fun c => c (hms 1 1 (by omega) (by omega))), ← hL2]
  rw [e] at hok hdy ⊢
  obtain ⟨s, hs⟩ : ∃ s, s = L2.scan M (n - 2 + 1).toNat L2.start L2.floor := ⟨_, rfl⟩
  have hsf := scan_fit (L := L2) hY (by omega) (n - 2 + 1).toNat L2.start L2.floor (Int.le_refl _) (by omega) hfit.f.1
  rw [← hs] at s1 s2 s3 hok hdy hsf ⊢
  unfold LA.opn2 at hok hdy ⊢
  rw [if_neg (fun c => c s1)] at hok hdy ⊢
  by_cases hm : 1099511627776 ≤ mxI L2.life s.life
  · rw [if_pos hm]
    exact .inl ⟨rfl, rfl⟩
  · rw [if_neg hm] at hok hdy ⊢
    right
    have hmx : L2.life ≤ mxI L2.life s.life ∧ s.life ≤ mxI L2.life s.life := by unfold mxI; split <;> omega
    obtain ⟨q1, q2⟩ := hfit.q
    obtain ⟨p1, p2⟩ := hfit.l
    obtain ⟨u1, u2⟩ := hfit.s
    obtain ⟨v1, v2⟩ := hfit.f
    obtain ⟨L1, hL1, a1, a2, a3, a4, a5, a6, a7⟩ : ∃ L1 : LA, L1 = L2.fin s (mxI L2.life s.life) ∧ L1.fr = L2.fr ∧ L1.ring = L2.ring ∧ L1.seq = L2.seq ∧ L1.life = mxI L2.life s.life + 1 ∧ L1.start = L2.start ∧ (0 ≤ L1.floor ∧ L1.floor ≤ 1099511627776) ∧ L1.next = s.next := ⟨_, rfl, rfl, rfl, rfl, rfl, rfl, by
      show 0 ≤ (if s.next = L2.start then _ else _) ∧ (if s.next = L2.start then _ else _) ≤ _
      split <;> omega, rfl⟩
    rw [← hL1] at hok hdy ⊢
    have hN : L1.up.Nm := ⟨⟨show 0 ≤ L1.fr by omega, show L1.fr ≤ 65536 by omega⟩, ⟨show 0 ≤ L1.seq + 1 by omega, show L1.seq + 1 < 18446744073709551616 by omega⟩, ⟨show 0 ≤ L1.life by omega, show L1.life < 18446744073709551616 by omega⟩, ⟨show 0 ≤ L1.start by omega, show L1.start < 18446744073709551616 by omega⟩, ⟨show 0 ≤ L1.floor by omega, show L1.floor < 18446744073709551616 by omega⟩⟩
    have hI : L1.mkI = L1.fr + (L1.seq + 1) % 2 := rfl
    have i0 : 0 ≤ L1.mkI := by rw [hI]; omega
    have i1 : L1.mkI < N := by rw [hI]; omega
    have hl := mb_len hN
    obtain ⟨m1, m2, m3⟩ := hg.mark hN i0 i1
    have hgw := hg.wr i0 i1 (l := L1.up.mb) (by omega)
    have hG1 : Geo L1.up N := ⟨show 0 ≤ L1.fr by omega, show 0 < L1.ring by omega, show L1.fr + 2 + L1.ring ≤ N by omega, show 0 ≤ L1.life by omega, show L1.life ≤ 1099511627776 by omega⟩
    have hrd : L1.up.rd (L1.mkM M) = L2.rd M := funext fun m => by
      obtain ⟨p0, p1, p2⟩ := hG2.pl m
      have e : L1.up.pl m = L2.pl m := by unfold LA.pl; show L1.fr + 2 + m % L1.ring = _; rw [a1, a2]
      have x1 := hgw.sy_rd p0 p1
      have x2 := hg.rd_other i0 i1 (l := L1.up.mb) (by omega) p0 p1 (by rw [hI]; omega)
      unfold LA.rd
      rw [e, m2, x1.1, x1.2, x2.1, x2.2]
    have hok1 := hok _ rfl
    dsimp only at hok1 hdy
    rw [m3.n] at hok1
    refine ⟨L1.up, s.life, t, rfl, m1, ⟨m3, hdy, hG1, hok1, show L1.start ≤ _ by omega, ?_, by omega, show s.life ≤ L1.life by omega⟩⟩
    rw [hrd]
    show Chn (L2.rd M) L1.ring L1.start L1.next s.life L1.start 0 t
    rw [a2, a5, a7]
    exact s3.weak v1
/-- What is appended comes behind. -/
theorem AI.append {lam : Int} {t : List (Int × List Int)} (h : AI N L M lam t) {b : List Int} (hb : Byt b) (hl : b.length ≤ 16384) (hr : (needN b.length : Int) ≤ L.free) :
    ∃ L' M', L.append M b = ⟨L.next, 0, L', M'⟩ ∧ L'.alls M' L'.start = t ++ [(L.next, b)] ∧ L'.Ok M'.now.length ∧ DY M' := by
  have hk := h.k
  have hnp := needN_pos b.length
  have hn35 : needN b.length ≤ 35 := by unfold needN; omega
  have h1 := hk.sn
  have h2 := hk.s0
  have h3 := hk.nr
  have h4 := hk.n6
  have h5 := hk.fn
  have h7 := hk.f0
  have h8 := h.s1
  obtain ⟨M1, e1, hA⟩ := append_good (l := b) h.g h.G (by omega) hl hr (by omega) (by omega)
  unfold LA.free at hr
  have hY := (append_ok' L M hb).1.y h.Y
  have hO := append_Ok (L := L) (M := M) (by rw [h.g.n]; exact hk) hb (by omega)
  rw [e1] at hY hO
  have g1 : Gd M1 N := hA.g
  have hG1 : Geo ({ L with next := L.next + needN b.length } : LA) N := ⟨h.G.f0, h.G.r0, h.G.fn, h.G.l0, h.G.l1⟩
  have he1 := rdE_zero g1 hG1
  have hold : ∀ m, L.start ≤ m → m < L.next → L.rd M1 m = L.rd M m := fun m x y => by
    obtain ⟨p0, p1, _⟩ := h.G.pl m
    exact rd_cong (hA.o _ p0 p1 (fun n n0 n1 => pl_ne h.G.r0 (by omega) (by omega) (by omega)))
  refine ⟨_, M1, e1, ?_, hO, hY⟩
  refine alls_chn (lam := L.life) (lf := 0) he1 ?_ (Int.le_refl _)
  show Chn (L.rd M1) L.ring L.start (L.next + needN b.length) L.life L.start 0 (t ++ [(L.next, b)])
  refine Chn.snoc (z := L.next) (lam := lam) (fun lf hlf => ?_) t _ _ (Chn.frame t _ _ h.t hold)
  have hen := entry_lies (L := L) (M := M1) (a := L.next) (lf := lf) (x := (L.life, b)) hb (by show lf ≤ L.life; have := h.l1; omega) hA.s (by show L.next + needN b.length ≤ _; omega)
  rw [entry_EN] at hen
  rw [hen]
  exact ⟨rfl, rfl, rfl, Int.le_refl _⟩
end
end Go.Proofs.Ytihmfccpgahmaaa.Wal
