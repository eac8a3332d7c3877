/- What Append laid is read again: entries on a disk that works. Plain Lean. No conditions beyond those that are named. -/
import Derived.Test.YtihmfccpgahmaaaWalGood
namespace Go.Proofs.Ytihmfccpgahmaaa.Wal
open Go Go.RowKit
open Go.Proofs.YtihmfccpgahmaaaW.PrintWords hiding Kept Kept.refl
open Go.Proofs.YtihmfccpgahmaaaW.PrintMore Go.Proofs.YtihmfccpgahmaaaW.PrintLast Go.Proofs.Ytihmfccpgahmaaa.Dk Go.Proofs.Ytihmfccpgahmaaa.Q Go.Proofs.Ytihmfccpgahmaaa.Str Go.Proofs.Ytihmfccpgahmaaa.Leb
set_option linter.unusedVariables false
set_option linter.unusedSimpArgs false
theorem needN_pos (n : Nat) : 1 ≤ needN n := by unfold needN; omega
theorem needN_one {n : Nat} (h : n ≤ 480) : needN n = 1 := by unfold needN; omega
theorem needN_more {n : Nat} (h : 480 < n) : needN n = needN (n - 480) + 1 := by unfold needN; omega
/-- A part that was laid is read. -/
theorem rtext_fwd (b t : List Int) (h : b.length ≤ 480) : rtext ⟨leb b.length ++ (b ++ t), 0⟩ 480 = (strOfNums b, ⟨t, 0⟩) := by
  have e := rnum_fwd (most := 480) b.length (b ++ t) (by omega) (by omega)
  unfold rtext
  dsimp only
  rw [show (if (0 : Int) < 480 then (480 : Int) else 0) = 480 from rfl, e]
  dsimp only
  rw [if_pos rfl, if_neg (by rw [List.length_append]; omega), Int.toNat_natCast, List.take_left, List.drop_left]
theorem prt_sec {n life : Int} {last : Bool} {b : List Int} (h0 : 0 ≤ n) (h1 : n < 9223372036854775807) (h2 : 0 ≤ life) (h3 : life ≤ 1099511627776) (h4 : b.length ≤ 480) : prt (wholeF (secB n life last b)) n = ⟨life, last, strOfNums b, true, 0⟩ := by
  obtain ⟨Z, hZ⟩ : ∃ Z, Z = List.replicate (512 - (secB n life last b).length) (0 : Int) := ⟨_, rfl⟩
  have e : wholeF (secB n life last b) = leb (n + 1).toNat ++ (leb life.toNat ++ (leb (if last = true then 1 else 0) ++ (leb b.length ++ (b ++ Z)))) := by
    unfold wholeF
    rw [← hZ]
    unfold secB
    simp only [List.append_assoc]
  clear hZ
  have e1 := rnum_fwd (most := 9223372036854775807) (n + 1).toNat (leb life.toNat ++ (leb (if last = true then 1 else 0) ++ (leb b.length ++ (b ++ Z)))) (by omega) (by omega)
  have e2 := rnum_fwd (most := 1099511627776) life.toNat (leb (if last = true then 1 else 0) ++ (leb b.length ++ (b ++ Z))) (by omega) (by omega)
  have e3 := rnum_fwd (most := 1) (if last = true then 1 else 0) (leb b.length ++ (b ++ Z)) (by split <;> omega) (by split <;> omega)
  have e4 := rtext_fwd b Z h4
  unfold prt
  rw [e, e1]
  dsimp only
  rw [e2]
  dsimp only
  rw [e3]
  dsimp only
  rw [e4]
  dsimp only
  have k1 : ((life.toNat : Nat) : Int) = life := by omega
  have k2 : ((((if last = true then 1 else 0 : Nat)) : Int) == 1) = last := by cases last <;> rfl
  have k3 : (((n + 1).toNat : Nat) : Int) = n + 1 := by omega
  rw [k1, k2, k3]
  simp
/-- An entry's sectors, from number n on, as R reads them. -/
def lies (R : Int → Part) (life : Int) : Nat → Int → List Int → Prop
  | 0, _, _ => False
  | k + 1, n, r => R n = ⟨life, decide (r.length ≤ 480), strOfNums (r.take 480), true, 0⟩ ∧ (480 < r.length → lies R life k (n + 1) (r.drop 480))
theorem lies_frame {R R' : Int → Part} {life : Int} : ∀ (k : Nat) (n : Int) (r : List Int), (∀ m, n ≤ m → m < n + needN r.length → R' m = R m) → lies R life k n r → lies R' life k n r
  | 0, _, _, _, h => h
  | k + 1, n, r, hf, h => by
    have hp := needN_pos r.length
    refine ⟨by rw [hf n (by omega) (by omega)]; exact h.1, fun hl => lies_frame k (n + 1) (r.drop 480) (fun m a b => hf m (by omega) ?_) (h.2 hl)⟩
    rw [List.length_drop] at b
    have := needN_more hl
    omega
section
variable {M : DA} {N : Nat} {L : LA}
theorem ent_lies (lsn life : Int) : ∀ (k F : Nat) (n life0 : Int) (r out : List Int), Byt r → k ≤ F → lies (L.rd M) life k n r → (lsn < n → life0 = life) → life0 ≤ life → L.ent M lsn F n life0 out = ⟨out ++ r, n + needN r.length, life, true, 0⟩
  | 0, _, _, _, _, _, _, _, h, _, _ => h.elim
  | k + 1, 0, _, _, _, _, _, h, _, _, _ => by omega
  | k + 1, F + 1, n, life0, r, out, hb, hF, h, h1, h2 => by
    obtain ⟨hr, hm⟩ := h
    rw [LA.ent_succ, hr, if_neg (by
      unfold Part.bad
      rintro (c | c | c | c)
      · exact c rfl
      · cases c
      · have c2 : life < life0 := c
        omega
      · exact c.2 (h1 c.1).symm)]
    by_cases hl : r.length ≤ 480
    · have e : r.take 480 = r := List.take_of_length_le hl
      rw [if_pos (decide_eq_true hl)]
      show (⟨out ++ bytesOf (strOfNums (r.take 480)), n + 1, life, true, 0⟩ : Ent) = _
      rw [e, back hb, needN_one hl]
      rfl
    · rw [if_neg (by show ¬ decide (r.length ≤ 480) = true; rw [decide_eq_true_eq]; exact hl)]
      show L.ent M lsn F (n + 1) life (out ++ bytesOf (strOfNums (r.take 480))) = _
      rw [back (hb.take 480), ent_lies lsn life k F (n + 1) life (r.drop 480) _ (hb.drop 480) (by omega) (hm (by omega)) (fun _ => rfl) (Int.le_refl _), List.append_assoc, List.take_append_drop, List.length_drop, needN_more (show 480 < r.length by omega)]
      congr 1
      omega
/-- The log's place on the disk. -/
structure Geo (L : LA) (N : Nat) : Prop where
  f0 : 0 ≤ L.fr
  r0 : 0 < L.ring
  fn : L.fr + 2 + L.ring ≤ N
  l0 : 0 ≤ L.life
  l1 : L.life ≤ 1099511627776
theorem Geo.pl (h : Geo L N) (k : Int) : 0 ≤ L.pl k ∧ L.pl k < N ∧ L.fr + 2 ≤ L.pl k := by
  have h1 := Int.emod_nonneg k (show L.ring ≠ 0 by have := h.r0; omega)
  have h2 := Int.emod_lt_of_pos k h.r0
  have := h.f0
  have := h.fn
  unfold LA.pl
  omega
theorem pl_ne {m n : Int} (hr : 0 < L.ring) (h : m ≠ n) (h1 : m - n < L.ring) (h2 : n - m < L.ring) : L.pl m ≠ L.pl n := by
  intro he
  unfold LA.pl at he
  have e1 := Int.emod_add_mul_ediv m L.ring
  have e2 := Int.emod_add_mul_ediv n L.ring
  have hd : L.ring ∣ m - n := ⟨m / L.ring - n / L.ring, by rw [Int.mul_sub]; omega⟩
  rcases Int.lt_trichotomy m n with a | a | a
  · have := Int.le_of_dvd (show 0 < -(m - n) by omega) (Int.dvd_neg.2 hd)
    omega
  · exact h a
  · have := Int.le_of_dvd (by omega) hd
    omega
theorem rd_cong {M' : DA} {n : Int} (h : M'.rdE (L.pl n) = M.rdE (L.pl n) ∧ M'.rdB (L.pl n) = M.rdB (L.pl n)) : L.rd M' n = L.rd M n := by
  unfold LA.rd
  rw [h.1, h.2]
/-- What Append writes. -/
def LA.wrs (L : LA) : Nat → List Int → List (Int × List Int)
  | 0, _ => []
  | k + 1, r => (L.pl L.next, secB L.next L.life (decide (r.length ≤ 480)) (r.take 480)) :: (if r.length ≤ 480 then [] else L.app1.wrs k (r.drop 480))
/-- What Append makes of a disk that works, if there is room. -/
structure AppG (L : LA) (M : DA) (N k : Nat) (r : List Int) (A : App) : Prop where
  e : A.e = 0
  la : A.L = { L with next := L.next + needN r.length }
  g : Gd A.M N
  o : ∀ j : Int, 0 ≤ j → j < N → (∀ m, L.next ≤ m → m < L.next + needN r.length → L.pl m ≠ j) → A.M.rdE j = M.rdE j ∧ A.M.rdB j = M.rdB j
  s : lies (L.rd A.M) L.life k L.next r
  w : A.M.wait = M.wait ++ L.wrs k r
theorem app_good : ∀ (k : Nat) (r : List Int) (L : LA) (M : DA), Gd M N → Geo L N → 0 ≤ L.next → L.next + needN r.length ≤ 9223372036854775807 → needN r.length ≤ k → (needN r.length : Int) ≤ L.ring → AppG L M N k r (L.app M k r)
  | 0, r, L, M, hM, hg, h0, h1, h2, h3 => by have := needN_pos r.length; omega
  | k + 1, r, L, M, hM, hg, h0, h1, h2, h3 => by
    have hp := needN_pos r.length
    obtain ⟨p0, p1, _⟩ := hg.pl L.next
    have hl0 := hg.l0
    have hl1 := hg.l1
    have hlen : (secB L.next L.life (decide (r.length ≤ 480)) (r.take 480)).length ≤ 512 := sec_len (by omega) (by omega) (by rw [List.length_take]; omega)
    obtain ⟨B, hB⟩ : ∃ B, B = secB L.next L.life (decide (r.length ≤ 480)) (r.take 480) := ⟨_, rfl⟩
    have hwe := hM.wrE p0 p1 (n := B.length) (by rw [hB]; exact hlen)
    have hw := hM.wr_eq p0 p1 (l := B) (by rw [hB]; exact hlen)
    have hg1 := hM.wr p0 p1 (l := B) (by rw [hB]; exact hlen)
    have hs := hM.rd_same p0 p1 (l := B) (by rw [hB]; exact hlen)
    have hrd : L.rd (M.wr (L.pl L.next) B) L.next = ⟨L.life, decide (r.length ≤ 480), strOfNums (r.take 480), true, 0⟩ := by
      unfold LA.rd
      rw [if_pos hs.1, hs.2, hB]
      exact prt_sec h0 (by omega) hl0 hl1 (by rw [List.length_take]; omega)
    have ho : ∀ j : Int, 0 ≤ j → j < N → L.pl L.next ≠ j → (M.wr (L.pl L.next) B).rdE j = M.rdE j ∧ (M.wr (L.pl L.next) B).rdB j = M.rdB j := fun j a b c => hM.rd_other p0 p1 (by rw [hB]; exact hlen) a b c
    have hwt : (M.wr (L.pl L.next) B).wait = M.wait ++ [(L.pl L.next, B)] := by rw [hw]
    rw [app_succ, ← hB, if_pos hwe]
    by_cases hl : r.length ≤ 480
    · rw [if_pos hl]
      have hn := needN_one hl
      refine ⟨rfl, ?_, hg1, fun j a b c => ho j a b (c _ (Int.le_refl _) (by omega)), ⟨hrd, fun h => by omega⟩, ?_⟩
      · rw [hn]; rfl
      · show _ = _ ++ (_ :: (if r.length ≤ 480 then [] else _))
        rw [if_pos hl, hwt, hB]
    · rw [if_neg hl]
      have hn := needN_more (show 480 < r.length by omega)
      have hd : (r.drop 480).length = r.length - 480 := List.length_drop
      have ih := app_good k (r.drop 480) L.app1 (M.wr (L.pl L.next) B) hg1 ⟨hg.f0, hg.r0, hg.fn, hg.l0, hg.l1⟩ (by show 0 ≤ L.next + 1; omega) (by show L.next + 1 + _ ≤ _; rw [hd]; omega) (by rw [hd]; omega) (by show _ ≤ L.ring; rw [hd]; omega)
      have hpd := needN_pos (r.drop 480).length
      refine ⟨ih.e, ?_, ih.g, fun j a b c => ?_, ⟨?_, fun _ => ih.s⟩, ?_⟩
      · rw [ih.la]
        show ({ L with next := L.next + 1 + needN (r.drop 480).length } : LA) = _
        rw [hd, hn]
        congr 1
        omega
      · have q := ih.o j a b (fun m x y => c m (by have x2 : L.next + 1 ≤ m := x; omega) (by have y2 : m < L.next + 1 + needN (r.drop 480).length := y; rw [hd] at y2; omega))
        have q2 := ho j a b (c _ (Int.le_refl _) (by omega))
        exact ⟨q.1.trans q2.1, q.2.trans q2.2⟩
      · rw [← hrd]
        exact rd_cong (ih.o _ p0 p1 (fun m x y => by
          have x2 : L.next + 1 ≤ m := x
          have y2 : m < L.next + 1 + needN (r.drop 480).length := y
          rw [hd] at y2
          show L.pl m ≠ L.pl L.next
          exact pl_ne hg.r0 (by omega) (by omega) (by omega)))
      · rw [ih.w, hwt, List.append_assoc]
        show _ = _ ++ (_ :: (if r.length ≤ 480 then [] else _))
        rw [if_neg hl, hB]
        rfl
/-- Entries, each with its life, from number a on to z. -/
def Ents (R : Int → Part) : Int → Int → List (Int × List Int) → Int → Prop
  | a, _, [], z => a = z
  | a, lf, x :: t, z => Byt x.2 ∧ lf ≤ x.1 ∧ lies R x.1 (needN x.2.length) a x.2 ∧ Ents R (a + needN x.2.length) x.1 t z
def numb : Int → List (Int × List Int) → List (Int × List Int)
  | _, [] => []
  | a, x :: t => (a, x.2) :: numb (a + needN x.2.length) t
def lastL : Int → List (Int × List Int) → Int
  | lf, [] => lf
  | _, x :: t => lastL x.1 t
theorem Ents.le {R : Int → Part} {z : Int} : ∀ (es : List (Int × List Int)) (a lf : Int), Ents R a lf es z → a ≤ z
  | [], _, _, h => Int.le_of_eq h
  | x :: t, a, lf, h => by have := Ents.le t _ _ h.2.2.2; omega
theorem Ents.frame {R R' : Int → Part} {z : Int} : ∀ (es : List (Int × List Int)) (a lf : Int), (∀ m, a ≤ m → m < z → R' m = R m) → Ents R a lf es z → Ents R' a lf es z
  | [], _, _, _, h => h
  | x :: t, a, lf, hf, h => by
    have hz := Ents.le t _ _ h.2.2.2
    exact ⟨h.1, h.2.1, lies_frame _ _ _ (fun m p q => hf m p (by omega)) h.2.2.1, Ents.frame t _ _ (fun m p q => hf m (by omega) q) h.2.2.2⟩
theorem Ents.snoc {R : Int → Part} {z life : Int} {b : List Int} (hb : Byt b) (hs : lies R life (needN b.length) z b) : ∀ (es : List (Int × List Int)) (a lf : Int), Ents R a lf es z → lastL lf es ≤ life → Ents R a lf (es ++ [(life, b)]) (z + needN b.length)
  | [], a, lf, h, hl => by
    have e : a = z := h
    rw [e]
    exact ⟨hb, hl, hs, rfl⟩
  | x :: t, a, lf, h, hl => ⟨h.1, h.2.1, h.2.2.1, Ents.snoc hb hs t _ _ h.2.2.2 hl⟩
theorem entry_lies {a lf : Int} {x : Int × List Int} (hb : Byt x.2) (hl : lf ≤ x.1) (hs : lies (L.rd M) x.1 (needN x.2.length) a x.2) (h1 : a + needN x.2.length ≤ L.start + L.ring) : L.entry M a lf = ⟨x.2, a + needN x.2.length, x.1, true, 0⟩ := by
  unfold LA.entry
  rw [ent_lies a x.1 (needN x.2.length) _ a lf x.2 [] hb (by omega) hs (fun h => by omega) hl]
  rfl
theorem all_ents (hn : L.next ≤ L.start + L.ring) : ∀ (es : List (Int × List Int)) (k : Nat) (a lf : Int), Ents (L.rd M) a lf es L.next → es.length < k → L.all M k a lf = numb a es
  | [], k + 1, a, lf, h, _ => by
    have e : a = L.next := h
    rw [all_succ, if_neg (by omega)]; rfl
  | x :: t, k + 1, a, lf, h, hk => by
    have hz := Ents.le t _ _ h.2.2.2
    have hp := needN_pos x.2.length
    have he := entry_lies h.1 h.2.1 h.2.2.1 (by omega)
    rw [all_succ, if_pos (by omega), he, if_neg (by rintro (c | c); exact c rfl; cases c)]
    show (a, x.2) :: L.all M k (a + needN x.2.length) x.1 = _
    rw [all_ents hn t k _ _ h.2.2.2 (by simpa using hk)]
    rfl
theorem Ents.len {R : Int → Part} {z : Int} : ∀ (es : List (Int × List Int)) (a lf : Int), Ents R a lf es z → (es.length : Int) ≤ z - a
  | [], a, lf, h => by have e : a = z := h; simp; omega
  | x :: t, a, lf, h => by
    have := Ents.len t _ _ h.2.2.2
    have := needN_pos x.2.length
    rw [List.length_cons]
    omega
theorem alls_ents (hn : L.next ≤ L.start + L.ring) {es : List (Int × List Int)} {a : Int} (h : Ents (L.rd M) a 0 es L.next) : L.alls M a = numb a es := by
  have := Ents.len _ _ _ h
  exact all_ents hn es _ a 0 h (by omega)
theorem scan_ents {z : Int} (hn : z ≤ L.start + L.ring) : ∀ (es : List (Int × List Int)) (k : Nat) (a lf : Int), Ents (L.rd M) a lf es z → es.length < k → (L.entry M z (lastL lf es)).ok = false ∧ (L.entry M z (lastL lf es)).e = 0 → L.scan M k a lf = ⟨z, lastL lf es, 0⟩
  | [], k + 1, a, lf, h, _, hz => by
    have e : a = z := h
    have hz1 : (L.entry M z lf).ok = false := hz.1
    have hz2 : (L.entry M z lf).e = 0 := hz.2
    rw [scan_succ, e, if_neg (by rw [hz2]; decide), if_neg (by rw [hz1]; decide)]; rfl
  | x :: t, k + 1, a, lf, h, hk, hz => by
    have hzz := Ents.le t _ _ h.2.2.2
    have he := entry_lies h.1 h.2.1 h.2.2.1 (by omega)
    rw [scan_succ, he, if_neg (fun c => c rfl), if_pos rfl]
    exact scan_ents hn t k _ _ h.2.2.2 (by simpa using hk) hz
/-- Append, on a disk that works, with room. -/
theorem append_good (hM : Gd M N) (hg : Geo L N) (h0 : 0 ≤ L.next) {l : List Int} (hl : l.length ≤ 16384) (hr : (needN l.length : Int) ≤ L.free) (hs : L.start ≤ L.next) (h1 : L.next + needN l.length ≤ 9223372036854775807) :
    ∃ M', L.append M l = ⟨L.next, 0, { L with next := L.next + needN l.length }, M'⟩ ∧ AppG L M N (needN l.length) l ⟨{ L with next := L.next + needN l.length }, M', 0⟩ := by
  unfold LA.free at hr
  have h := app_good (needN l.length) l L M hM hg h0 h1 (Nat.le_refl _) (by omega)
  refine ⟨(L.app M (needN l.length) l).M, ?_, ?_⟩
  · unfold LA.append LA.free
    rw [if_neg (by omega), if_neg (by omega), if_pos h.e, h.e, h.la]
  · exact ⟨rfl, rfl, h.g, h.o, h.s, h.w⟩
/-- Entries stay where Append writes behind them. -/
theorem append_ents {l : List Int} {M' : DA} {es : List (Int × List Int)} {a lf : Int} (hg : Geo L N) (hb : Byt l) (h : AppG L M N (needN l.length) l ⟨{ L with next := L.next + needN l.length }, M', 0⟩) (he : Ents (L.rd M) a lf es L.next) (ha : L.start ≤ a) (hr : L.next + needN l.length ≤ L.start + L.ring) (hl : lastL lf es ≤ L.life) :
    Ents (({ L with next := L.next + needN l.length } : LA).rd M') a lf (es ++ [(L.life, l)]) (L.next + needN l.length) := by
  refine Ents.snoc (R := L.rd M') hb h.s es a lf (Ents.frame es a lf (fun m x y => ?_) he) hl
  obtain ⟨p0, p1, _⟩ := hg.pl m
  exact rd_cong (h.o _ p0 p1 (fun n x2 y2 => pl_ne hg.r0 (by omega) (by omega) (by omega)))
end
end Go.Proofs.Ytihmfccpgahmaaa.Wal

namespace Go.Proofs.Ytihmfccpgahmaaa.Wal
open Go Go.RowKit
open Go.Proofs.YtihmfccpgahmaaaW.PrintWords hiding Kept Kept.refl
open Go.Proofs.YtihmfccpgahmaaaW.PrintMore Go.Proofs.YtihmfccpgahmaaaW.PrintLast Go.Proofs.Ytihmfccpgahmaaa.Dk Go.Proofs.Ytihmfccpgahmaaa.Q Go.Proofs.Ytihmfccpgahmaaa.Str Go.Proofs.Ytihmfccpgahmaaa.Leb
set_option linter.unusedVariables false
set_option linter.unusedSimpArgs false
/-- A log's numbers, so that a master sector bears them. -/
structure Bd (L : LA) : Prop where
  q0 : 0 ≤ L.seq
  q1 : L.seq < 9223372036854775807
  l0 : 0 ≤ L.life
  l1 : L.life ≤ 1099511627776
  s0 : 0 ≤ L.start
  s1 : L.start ≤ 4611686018427387903
  o0 : 0 ≤ L.floor
  o1 : L.floor ≤ 1099511627776
theorem rtext_dock (t : List Int) : rtext ⟨dockB ++ t, 0⟩ 4 = (strOfNums [100, 111, 99, 107], ⟨t, 0⟩) := by
  have e := rnum_fwd (most := 4) 4 ([100, 111, 99, 107] ++ t) (by omega) (by omega)
  have e2 : dockB ++ t = leb 4 ++ ([100, 111, 99, 107] ++ t) := by rw [leb_lt (by decide)]; rfl
  unfold rtext
  dsimp only
  rw [show (if (0 : Int) < 4 then (4 : Int) else 0) = 4 from rfl, e2, e]
  dsimp only
  rw [if_pos rfl, if_neg (by rw [List.length_append]; show ¬ ((4 + t.length : Nat) : Int) < 4; omega)]
  rfl
section
variable {M : DA} {N : Nat} {L : LA}
theorem mst_mb (n : Int) (h : Bd L) : mst (wholeF L.up.mb) n = ⟨L.seq + 1, L.life, L.start, L.floor, (L.seq + 1) % 2 == n, 0⟩ := by
  obtain ⟨q0, q1, l0, l1, s0, s1, o0, o1⟩ := h
  obtain ⟨Z, hZ⟩ : ∃ Z, Z = List.replicate (512 - L.up.mb.length) (0 : Int) := ⟨_, rfl⟩
  have e : wholeF L.up.mb = dockB ++ (leb (L.seq + 1).toNat ++ (leb L.life.toNat ++ (leb L.start.toNat ++ (leb L.floor.toNat ++ Z)))) := by
    unfold wholeF
    rw [← hZ]
    unfold LA.mb
    simp only [List.append_assoc]
    rfl
  clear hZ
  have e0 := rtext_dock (leb (L.seq + 1).toNat ++ (leb L.life.toNat ++ (leb L.start.toNat ++ (leb L.floor.toNat ++ Z))))
  have e1 := rnum_fwd (most := 9223372036854775807) (L.seq + 1).toNat (leb L.life.toNat ++ (leb L.start.toNat ++ (leb L.floor.toNat ++ Z))) (by omega) (by omega)
  have e2 := rnum_fwd (most := 1099511627776) L.life.toNat (leb L.start.toNat ++ (leb L.floor.toNat ++ Z)) (by omega) (by omega)
  have e3 := rnum_fwd (most := 4611686018427387903) L.start.toNat (leb L.floor.toNat ++ Z) (by omega) (by omega)
  have e4 := rnum_fwd (most := 1099511627776) L.floor.toNat Z (by omega) (by omega)
  unfold mst
  rw [e, e0]
  dsimp only
  rw [e1]
  dsimp only
  rw [e2]
  dsimp only
  rw [e3]
  dsimp only
  rw [e4]
  dsimp only
  have k1 : (((L.seq + 1).toNat : Nat) : Int) = L.seq + 1 := by omega
  have k2 : ((L.life.toNat : Nat) : Int) = L.life := by omega
  have k3 : ((L.start.toNat : Nat) : Int) = L.start := by omega
  have k4 : ((L.floor.toNat : Nat) : Int) = L.floor := by omega
  have k5 : ((strOfNums [100, 111, 99, 107]).toList == dock.toList) = true := by decide +kernel
  rw [k1, k2, k3, k4, k5]
  simp
theorem ms_cong {M' : DA} {n : Int} (h : M'.rdE (L.fr + n) = M.rdE (L.fr + n) ∧ M'.rdB (L.fr + n) = M.rdB (L.fr + n)) : L.ms M' n = L.ms M n := by
  unfold LA.ms
  rw [h.1, h.2]
/-- The master of this number stands, the other one is elder. -/
structure Mas (L : LA) (M : DA) : Prop where
  a : L.ms M (L.seq % 2) = ⟨L.seq, L.life, L.start, L.floor, true, 0⟩
  e : (L.ms M ((L.seq + 1) % 2)).e = 0
  o : (L.ms M ((L.seq + 1) % 2)).ok = true → (L.ms M ((L.seq + 1) % 2)).seq < L.seq
  q : 0 < L.seq
/-- The master that the next mark leaves is no younger than the number tells. -/
structure Old (L : LA) (M : DA) : Prop where
  e : (L.ms M (L.seq % 2)).e = 0
  o : (L.ms M (L.seq % 2)).ok = true → (L.ms M (L.seq % 2)).seq ≤ L.seq
theorem Mas.old (h : Mas L M) : Old L M := ⟨by rw [h.a], fun _ => by rw [h.a]; exact Int.le_refl _⟩
theorem Mas.frame {M' : DA} (h : Mas L M) (hf : ∀ n : Int, 0 ≤ n → n < 2 → M'.rdE (L.fr + n) = M.rdE (L.fr + n) ∧ M'.rdB (L.fr + n) = M.rdB (L.fr + n)) : Mas L M' := by
  have e1 := ms_cong (hf (L.seq % 2) (by omega) (by omega))
  have e2 := ms_cong (hf ((L.seq + 1) % 2) (by omega) (by omega))
  exact ⟨by rw [e1]; exact h.a, by rw [e2]; exact h.e, by rw [e2]; exact h.o, h.q⟩
theorem mark_good (hM : Gd M N) (hb : Bd L) (h : Old L M) (f0 : 0 ≤ L.fr) (f1 : L.fr + 2 ≤ N) (f2 : L.fr ≤ 65536) :
    L.mkE M = 0 ∧ Gd (L.mkM M) N ∧ Mas L.up (L.mkM M) ∧ (L.mkM M).wait = [] ∧ ∀ j : Int, L.fr + 2 ≤ j → j < N → (L.mkM M).rdE j = M.rdE j ∧ (L.mkM M).rdB j = M.rdB j := by
  have hN : L.up.Nm := ⟨⟨f0, f2⟩, ⟨show 0 ≤ L.seq + 1 by have := hb.q0; omega, show L.seq + 1 < 18446744073709551616 by have := hb.q1; omega⟩, ⟨hb.l0, show L.life < 18446744073709551616 by have := hb.l1; omega⟩, ⟨hb.s0, show L.start < 18446744073709551616 by have := hb.s1; omega⟩, ⟨hb.o0, show L.floor < 18446744073709551616 by have := hb.o1; omega⟩⟩
  have hI : L.mkI = L.fr + (L.seq + 1) % 2 := rfl
  have i0 : 0 ≤ L.mkI := by rw [hI]; omega
  have i1 : L.mkI < N := by rw [hI]; omega
  have hl := mb_len hN
  obtain ⟨m1, m2, m3⟩ := hM.mark hN i0 i1
  have hs := hM.rd_same i0 i1 (l := L.up.mb) (by omega)
  have hgw := hM.wr i0 i1 (l := L.up.mb) (by omega)
  have hrd : ∀ j : Int, 0 ≤ j → j < N → L.mkI ≠ j → (L.mkM M).rdE j = M.rdE j ∧ (L.mkM M).rdB j = M.rdB j := fun j a b c => by
    have q1 := hgw.sy_rd a b
    have q2 := hM.rd_other i0 i1 (l := L.up.mb) (by omega) a b c
    rw [m2]
    exact ⟨q1.1.trans q2.1, q1.2.trans q2.2⟩
  have hsy := hgw.sy_rd i0 i1
  refine ⟨m1, m3, ⟨?_, ?_, ?_, show 0 < L.seq + 1 by have := hb.q0; omega⟩, by rw [m2]; exact hgw.sy_eq.2.2.2.2.1, fun j a b => hrd j (by omega) b (by rw [hI]; omega)⟩
  · show L.ms (L.mkM M) ((L.seq + 1) % 2) = _
    unfold LA.ms
    rw [← hI, m2, hsy.1, hs.1, if_pos rfl, hsy.2, hs.2, mst_mb _ hb]
    show (⟨L.seq + 1, L.life, L.start, L.floor, (L.seq + 1) % 2 == (L.seq + 1) % 2, 0⟩ : Mst) = ⟨L.seq + 1, L.life, L.start, L.floor, true, 0⟩
    rw [beq_self_eq_true]
  all_goals
    have k : (L.up.seq + 1) % 2 = L.seq % 2 := by show (L.seq + 1 + 1) % 2 = _; omega
    have e2 : L.ms (L.mkM M) (L.seq % 2) = L.ms M (L.seq % 2) := ms_cong (hrd _ (by omega) (by omega) (by rw [hI]; omega))
    rw [k]
  · show (L.ms (L.mkM M) (L.seq % 2)).e = 0
    rw [e2]; exact h.e
  · show (L.ms (L.mkM M) (L.seq % 2)).ok = true → (L.ms (L.mkM M) (L.seq % 2)).seq < L.seq + 1
    rw [e2]; intro c; have := h.o c; omega
/-- A log as Open has it once the masters are read. -/
def LA.op (L : LA) : LA := ⟨L.fr, L.ring, L.seq, L.life, L.start, L.floor, 0, 0⟩
theorem msK_mas (h : Mas L M) : let Z : LA := ⟨L.fr, L.ring, 0, 0, 0, 0, 0, 0⟩
    Z.msK M 2 = L.op ∧ ((Z.msK M 0).ms M 0).e = 0 ∧ ((Z.msK M 1).ms M 1).e = 0 := by
  intro Z
  have hq := h.q
  by_cases hp : L.seq % 2 = 0
  · have ha : Z.ms M 0 = ⟨L.seq, L.life, L.start, L.floor, true, 0⟩ := by rw [← h.a, hp]; rfl
    have hp1 : (L.seq + 1) % 2 = 1 := by omega
    have he := h.e
    have ho := h.o
    rw [hp1] at he ho
    have k1 : Z.msK M 1 = L.op := by
      show Z.take (Z.ms M 0) = _
      rw [ha]
      exact if_pos ⟨rfl, hq⟩
    have hm : L.op.ms M 1 = L.ms M 1 := rfl
    refine ⟨?_, ?_, by rw [k1, hm]; exact he⟩
    · show (Z.msK M 1).take ((Z.msK M 1).ms M 1) = _
      rw [k1, hm]
      exact if_neg (fun c => by have := ho c.1; have c2 : L.seq < (L.ms M 1).seq := c.2; omega)
    · show (Z.ms M 0).e = 0
      rw [ha]
  · have hp0 : L.seq % 2 = 1 := by omega
    have ha : L.ms M 1 = ⟨L.seq, L.life, L.start, L.floor, true, 0⟩ := by rw [← h.a, hp0]
    have hp1 : (L.seq + 1) % 2 = 0 := by omega
    have he := h.e
    have ho := h.o
    rw [hp1] at he ho
    have hz : Z.ms M 0 = L.ms M 0 := rfl
    have k1 : ∃ s a b c, Z.msK M 1 = ⟨L.fr, L.ring, s, a, b, c, 0, 0⟩ ∧ s < L.seq := by
      show ∃ s a b c, Z.take (Z.ms M 0) = _ ∧ _
      rw [hz]
      by_cases hc : (L.ms M 0).ok = true ∧ Z.seq < (L.ms M 0).seq
      · exact ⟨(L.ms M 0).seq, (L.ms M 0).life, (L.ms M 0).start, (L.ms M 0).floor, if_pos hc, ho hc.1⟩
      · exact ⟨0, 0, 0, 0, if_neg hc, hq⟩
    obtain ⟨s, a, b, c, k1, k2⟩ := k1
    have hm : (⟨L.fr, L.ring, s, a, b, c, 0, 0⟩ : LA).ms M 1 = ⟨L.seq, L.life, L.start, L.floor, true, 0⟩ := by rw [← ha]; rfl
    refine ⟨?_, ?_, by rw [k1, hm]⟩
    · show (Z.msK M 1).take ((Z.msK M 1).ms M 1) = _
      rw [k1, hm]
      exact if_pos ⟨rfl, k2⟩
    · show (Z.ms M 0).e = 0
      rw [hz]; exact he
/-- Where no part of a number and life stands no entry begins. -/
theorem entry_no {z lf : Int} (h : z < L.start + L.ring → (L.rd M z).e = 0 ∧ ((L.rd M z).ok = false ∨ (L.rd M z).life < lf)) : (L.entry M z lf).ok = false ∧ (L.entry M z lf).e = 0 := by
  unfold LA.entry
  by_cases hz : z < L.start + L.ring
  · obtain ⟨m, hm⟩ : ∃ m, (L.ring - (z - L.start)).toNat = m + 1 := ⟨(L.ring - (z - L.start)).toNat - 1, by omega⟩
    obtain ⟨h1, h2⟩ := h hz
    rw [hm, LA.ent_succ, if_pos (by
      unfold Part.bad
      rcases h2 with h2 | h2
      · exact .inr (.inl h2)
      · exact .inr (.inr (.inl h2)))]
    exact ⟨rfl, h1⟩
  · rw [show (L.ring - (z - L.start)).toNat = 0 by omega]
    exact ⟨rfl, rfl⟩
/-- The log that Open gives, ahead of its mark. -/
def LA.re (L : LA) (z lf : Int) : LA := ⟨L.fr, L.ring, L.seq, lf + 1, L.start, if z = L.start then lf + 1 else L.floor, z, z⟩
theorem opn_mas (hM : Gd M N) (h6 : N ≤ 65536) (h : Mas L M) (hb : Bd L) (f0 : 0 ≤ L.fr) (r0 : 0 < L.ring) (fn : L.fr + 2 + L.ring ≤ N) {es : List (Int × List Int)} {z : Int} (he : Ents (L.rd M) L.start L.floor es z) (hz : z ≤ L.start + L.ring)
    (hs : z < L.start + L.ring → (L.rd M z).e = 0 ∧ ((L.rd M z).ok = false ∨ (L.rd M z).life < lastL L.floor es)) (hl : mxI L.life (lastL L.floor es) < 1099511627776) :
    opn M L.fr (L.ring + 2) = ⟨some (L.re z (mxI L.life (lastL L.floor es))).up, 0, (L.re z (mxI L.life (lastL L.floor es))).mkM M⟩ ∧ Gd ((L.re z (mxI L.life (lastL L.floor es))).mkM M) N ∧ Mas (L.re z (mxI L.life (lastL L.floor es))).up ((L.re z (mxI L.life (lastL L.floor es))).mkM M) ∧
      ((L.re z (mxI L.life (lastL L.floor es))).mkM M).wait = [] ∧ ∀ j : Int, L.fr + 2 ≤ j → j < N → ((L.re z (mxI L.life (lastL L.floor es))).mkM M).rdE j = M.rdE j ∧ ((L.re z (mxI L.life (lastL L.floor es))).mkM M).rdB j = M.rdB j := by
  obtain ⟨k2, k0, k1⟩ := msK_mas h
  have hlen := he.len
  have hsc : L.op.scan M (L.ring + 1).toNat L.op.start L.op.floor = ⟨z, lastL L.floor es, 0⟩ := scan_ents (L := L.op) hz es _ _ _ he (by omega) (entry_no (L := L.op) hs)
  have hm0 : 0 ≤ mxI L.life (lastL L.floor es) := by unfold mxI; have := hb.l0; split <;> omega
  obtain ⟨m1, m2, m3, m4, m5⟩ := mark_good (L := L.re z (mxI L.life (lastL L.floor es))) hM ⟨hb.q0, hb.q1, by show 0 ≤ mxI _ _ + 1; omega, by show mxI _ _ + 1 ≤ _; omega, hb.s0, hb.s1, by show 0 ≤ (if z = L.start then _ else _); have := hb.o0; split <;> omega, by show (if z = L.start then _ else _) ≤ _; have := hb.o1; split <;> omega⟩ ⟨h.old.e, h.old.o⟩ f0 (by show L.fr + 2 ≤ _; omega) (by show L.fr ≤ _; omega)
  refine ⟨?_, m2, m3, m4, m5⟩
  unfold opn
  rw [if_neg (by rw [hM.n]; omega), show L.ring + 2 - 2 = L.ring by omega]
  unfold LA.opn1
  rw [if_neg (by rw [k0]; decide), if_neg (by rw [k1]; decide), k2]
  show L.op.opn2 M (L.op.scan M (L.ring + 1).toNat L.op.start L.op.floor) = _
  rw [hsc]
  unfold LA.opn2
  rw [if_neg (fun c => c rfl)]
  show (if (1099511627776 : Int) ≤ mxI L.life (lastL L.floor es) then _ else _) = _
  rw [if_neg (by omega)]
  show (⟨some (L.re z (mxI L.life (lastL L.floor es))).up, (L.re z (mxI L.life (lastL L.floor es))).mkE M, (L.re z (mxI L.life (lastL L.floor es))).mkM M⟩ : OpR) = _
  rw [m1]
/-- Force, on a disk that works. -/
theorem force_good (hM : Gd M N) : (L.force M).e = 0 ∧ (L.force M).L = { L with forced := L.next } ∧ Gd (L.force M).M N ∧ ∀ j : Int, 0 ≤ j → j < N → (L.force M).M.rdE j = M.rdE j ∧ (L.force M).M.rdB j = M.rdB j := by
  unfold LA.force
  by_cases h : L.forced = L.next
  · rw [if_pos h]
    exact ⟨rfl, congrArg (fun x => ({ L with forced := x } : LA)) h, hM, fun _ _ _ => ⟨rfl, rfl⟩⟩
  · rw [if_neg h, if_pos hM.sy_eq.2.2.2.2.2]
    exact ⟨rfl, rfl, hM.sy, fun j a b => hM.sy_rd a b⟩
/-- Cut at the end: nothing is left. -/
theorem cut_end (hM : Gd M N) (hb : Bd L) (h : Mas L M) (f0 : 0 ≤ L.fr) (f1 : L.fr + 2 ≤ N) (f2 : L.fr ≤ 65536) (hs : L.start < L.next) (hx : L.next ≤ 4611686018427387903) :
    ∃ M', L.cut M L.next = ⟨0, (({ L with forced := L.next } : LA).at_ L.next |>.fl L.life).up, M'⟩ ∧ Gd M' N ∧ Mas (({ L with forced := L.next } : LA).at_ L.next |>.fl L.life).up M' ∧ M'.wait = [] ∧ ∀ j : Int, L.fr + 2 ≤ j → j < N → M'.rdE j = M.rdE j ∧ M'.rdB j = M.rdB j := by
  obtain ⟨e, l, g, r⟩ := force_good (L := L) hM
  have hm := h.frame (M' := (L.force M).M) (fun n a b => r _ (by omega) (by omega))
  have hs0 := hb.s0
  obtain ⟨m1, m2, m3, m4, m5⟩ := mark_good (L := ({ L with forced := L.next } : LA).at_ L.next |>.fl L.life) g ⟨hb.q0, hb.q1, hb.l0, hb.l1, show 0 ≤ L.next by omega, hx, hb.l0, hb.l1⟩ ⟨hm.old.e, hm.old.o⟩ f0 f1 f2
  refine ⟨_, ?_, m2, m3, m4, fun j a b => ?_⟩
  · unfold LA.cut
    rw [if_neg (by omega), if_neg (fun c => c e), l]
    unfold LA.cut2
    rw [if_neg (by show ¬ L.start = L.next; omega), if_neg (by show ¬ L.next < L.next; omega)]
    show (⟨LA.mkE _ (L.force M).M, _, _⟩ : CutR) = _
    rw [m1]
  · have q := m5 j a b
    have q2 := r j (by omega) b
    exact ⟨q.1.trans q2.1, q.2.trans q2.2⟩
/-- Cut at the start: nothing turns but what is forced. -/
theorem cut_start (hM : Gd M N) (hs : L.start ≤ L.next) : L.cut M L.start = ⟨0, { L with forced := L.next }, (L.force M).M⟩ := by
  obtain ⟨e, l, g, r⟩ := force_good (L := L) hM
  unfold LA.cut
  rw [if_neg (by omega), if_neg (fun c => c e), l]
  unfold LA.cut2
  rw [if_pos rfl]
  rfl
theorem lies_ok {R : Int → Part} {life : Int} : ∀ (k : Nat) (n : Int) (r : List Int), lies R life k n r → ∀ m, n ≤ m → m < n + needN r.length → (R m).ok = true ∧ (R m).e = 0
  | 0, _, _, h => h.elim
  | k + 1, n, r, h => fun m a b => by
    by_cases hm : m = n
    · rw [hm, h.1]; exact ⟨rfl, rfl⟩
    · by_cases hl : r.length ≤ 480
      · rw [needN_one hl] at b; omega
      · exact lies_ok k (n + 1) (r.drop 480) (h.2 (by omega)) m (by omega) (by rw [List.length_drop]; have := needN_more (show 480 < r.length by omega); omega)
theorem rd_apart {m n : Int} (h : (L.rd M n).ok = true) (hp : L.pl m = L.pl n) (hne : m ≠ n) : (L.rd M m).ok = false ∧ (L.rd M m).e = 0 := by
  unfold LA.rd at h ⊢
  rw [hp]
  by_cases he : M.rdE (L.pl n) = 0
  · rw [if_pos he] at h ⊢
    refine ⟨?_, rfl⟩
    unfold prt at h ⊢
    dsimp only at h ⊢
    rw [Bool.and_eq_true] at h
    have h2 := eq_of_beq h.2
    rw [Bool.and_eq_false_iff]
    right
    rw [beq_eq_false_iff_ne, h2]
    omega
  · rw [if_neg he] at h
    split at h <;> cases h
end
end Go.Proofs.Ytihmfccpgahmaaa.Wal

namespace Go.Proofs.Ytihmfccpgahmaaa.Wal
open Go Go.RowKit
open Go.Proofs.YtihmfccpgahmaaaW.PrintWords hiding Kept Kept.refl
open Go.Proofs.YtihmfccpgahmaaaW.PrintMore Go.Proofs.YtihmfccpgahmaaaW.PrintLast Go.Proofs.Ytihmfccpgahmaaa.Dk Go.Proofs.Ytihmfccpgahmaaa.Q Go.Proofs.Ytihmfccpgahmaaa.Str Go.Proofs.Ytihmfccpgahmaaa.Leb
set_option linter.unusedVariables false
set_option linter.unusedSimpArgs false
/-- What stands on a sector, and what would if the power went and nothing stayed. -/
def sees (t : List Bool) (s : List (List Int)) (j : Int) : Int × List Int := if rdOf false t j = true then (9, []) else (0, wholeF (rdOf [] s j))
def ns (M : DA) (j : Int) : Int × List Int := sees M.torn M.now j
def ss (M : DA) (j : Int) : Int × List Int := sees M.bad M.safe j
def ovl (f : Int → Int × List Int) (l : List (Int × List Int)) : Int → Int × List Int := l.foldl (fun f x j => if x.1 = j then (0, wholeF x.2) else f j) f
theorem ovl_snoc (f : Int → Int × List Int) (l : List (Int × List Int)) (x : Int × List Int) (j : Int) : ovl f (l ++ [x]) j = if x.1 = j then (0, wholeF x.2) else ovl f l j := by
  unfold ovl
  rw [List.foldl_append]
  rfl
/-- A disk's lists are of one length; what waits is what differs. -/
structure Dn (M : DA) (N : Nat) : Prop where
  n : M.now.length = N
  t : M.torn.length = N
  s : M.safe.length = N
  b : M.bad.length = N
  w : ∀ x ∈ M.wait, 0 ≤ x.1 ∧ x.1 < N
  y : ∀ j : Int, 0 ≤ j → j < N → ns M j = ovl (ss M) M.wait j
/-- The disk as it is safe. -/
def sdk (M : DA) : DA := { M with now := M.safe, torn := M.bad, wait := [], fuse := 0, down := false }
theorem sees_set (t : List Bool) (s : List (List Int)) {N : Nat} (ht : t.length = N) (hs : s.length = N) {i j : Int} (h0 : 0 ≤ i) (h1 : i < N) (h2 : 0 ≤ j) (l : List Int) : sees (t.set i.toNat false) (s.set i.toNat l) j = if i = j then (0, wholeF l) else sees t s j := by
  unfold sees
  by_cases h : i = j
  · subst h
    rw [rd_set_eq _ _ _ _ h0 (by rw [ht]; exact h1), rd_set_eq _ _ _ _ h0 (by rw [hs]; exact h1), if_pos rfl]
    rfl
  · rw [rd_set_ne' _ _ _ _ _ h0 h2 h, rd_set_ne' _ _ _ _ _ h0 h2 h, if_neg h]
theorem sees_bad (t : List Bool) (s : List (List Int)) {N : Nat} (ht : t.length = N) {i j : Int} (h0 : 0 ≤ i) (h1 : i < N) (h2 : 0 ≤ j) : sees (t.set i.toNat true) s j = if i = j then (9, []) else sees t s j := by
  unfold sees
  by_cases h : i = j
  · subst h
    rw [rd_set_eq _ _ _ _ h0 (by rw [ht]; exact h1), if_pos rfl, if_pos rfl]
  · rw [rd_set_ne' _ _ _ _ _ h0 h2 h, if_neg h]
section
variable {M M' : DA} {N : Nat}
theorem rd_ns (hg : Gd M N) {j : Int} (h0 : 0 ≤ j) (h1 : j < N) : M.rdE j = (ns M j).1 ∧ M.rdB j = (ns M j).2 := by
  have e := rdE_good hg h0 h1
  unfold DA.rdB
  rw [e]
  unfold ns sees
  split
  · exact ⟨rfl, if_neg (by decide)⟩
  · exact ⟨rfl, if_pos rfl⟩
theorem see_eq (hg : Gd M N) (hg' : Gd M' N) {j : Int} (h0 : 0 ≤ j) (h1 : j < N) (h : ns M' j = ns M j) : M'.rdE j = M.rdE j ∧ M'.rdB j = M.rdB j := by
  obtain ⟨a, b⟩ := rd_ns hg h0 h1
  obtain ⟨c, d⟩ := rd_ns hg' h0 h1
  rw [a, b, c, d, h]
  exact ⟨rfl, rfl⟩
theorem Dn.sdk (h : Dn M N) : Gd (sdk M) N := ⟨h.s, h.b, rfl, rfl⟩
theorem Dn.new (n : Nat) : Dn (DA.new n) n := ⟨by unfold DA.new; simp, by unfold DA.new; simp, by unfold DA.new; simp, by unfold DA.new; simp, fun x hx => (by cases hx), fun j _ _ => rfl⟩
theorem step_same (M : DA) : M.step.now = M.now ∧ M.step.torn = M.torn ∧ M.step.safe = M.safe ∧ M.step.bad = M.bad ∧ M.step.wait = M.wait := by
  unfold DA.step
  split
  · exact ⟨rfl, rfl, rfl, rfl, rfl⟩
  · split <;> exact ⟨rfl, rfl, rfl, rfl, rfl⟩
/-- A write that is let in. -/
theorem wr_parts (i : Int) (l : List Int) (ha : M.ask i = 0) (hl : l.length ≤ 512) : (M.wr i l).now = M.now.set i.toNat l ∧ (M.wr i l).torn = M.torn.set i.toNat false ∧ (M.wr i l).safe = M.safe ∧ (M.wr i l).bad = M.bad ∧ (M.wr i l).wait = M.wait ++ [(i, l)] := by
  obtain ⟨a, b, c, d, e⟩ := step_same M
  unfold DA.wr
  rw [if_pos ⟨ha, hl⟩]
  show M.step.now.set _ _ = _ ∧ M.step.torn.set _ _ = _ ∧ M.step.safe = _ ∧ M.step.bad = _ ∧ M.step.wait ++ _ = _
  rw [a, b, c, d, e]
  exact ⟨rfl, rfl, rfl, rfl, rfl⟩
theorem Dn.wr (h : Dn M N) {i : Int} (h0 : 0 ≤ i) (h1 : i < N) (l : List Int) : Dn (M.wr i l) N := by
  by_cases hc : M.ask i = 0 ∧ l.length ≤ 512
  · obtain ⟨a, b, c, d, e⟩ := wr_parts i l hc.1 hc.2
    refine ⟨by rw [a, List.length_set]; exact h.n, by rw [b, List.length_set]; exact h.t, by rw [c]; exact h.s, by rw [d]; exact h.b, ?_, ?_⟩
    · rw [e]
      intro x hx
      rcases List.mem_append.1 hx with hx | hx
      · exact h.w x hx
      · rw [List.mem_singleton.1 hx]; exact ⟨h0, h1⟩
    · intro j j0 j1
      have hs : ss (M.wr i l) = ss M := by funext k; unfold ss; rw [c, d]
      rw [hs, e, ovl_snoc, ← h.y j j0 j1]
      unfold ns
      rw [a, b, sees_set _ _ h.t h.n h0 h1 j0]
  · unfold DA.wr
    rw [if_neg hc]
    exact h
theorem lay_ss (h : M.safe.length = N) (h2 : M.bad.length = N) {x : Int × List Int} (h0 : 0 ≤ x.1) (h1 : x.1 < N) {j : Int} (j0 : 0 ≤ j) : ss (M.lay x) j = if x.1 = j then (0, wholeF x.2) else ss M j := by
  unfold ss DA.lay
  exact sees_set _ _ h2 h h0 h1 j0 x.2
theorem fold_ss (l : List (Int × List Int)) : ∀ M : DA, M.safe.length = N → M.bad.length = N → (∀ x ∈ l, 0 ≤ x.1 ∧ x.1 < N) → (l.foldl DA.lay M).safe.length = N ∧ (l.foldl DA.lay M).bad.length = N ∧ ∀ j : Int, 0 ≤ j → j < N → ss (l.foldl DA.lay M) j = ovl (ss M) l j := by
  induction l with
  | nil => intro M a b _; exact ⟨a, b, fun _ _ _ => rfl⟩
  | cons x l ih =>
    intro M a b hw
    obtain ⟨x0, x1⟩ := hw x (List.mem_cons_self ..)
    obtain ⟨c, d, e⟩ := ih (M.lay x) (by unfold DA.lay; simpa using a) (by unfold DA.lay; simpa using b) (fun y hy => hw y (List.mem_cons_of_mem _ hy))
    refine ⟨c, d, fun j j0 j1 => ?_⟩
    rw [List.foldl_cons, e j j0 j1]
    have hf : ∀ (l : List (Int × List Int)) (f f' : Int → Int × List Int), f j = f' j → ovl f l j = ovl f' l j := by
      intro l
      induction l with
      | nil => intro f f' h; exact h
      | cons y l ih2 =>
        intro f f' h
        show ovl (fun j => if y.1 = j then _ else f j) l j = ovl (fun j => if y.1 = j then _ else f' j) l j
        refine ih2 _ _ ?_
        show (if y.1 = j then _ else f j) = (if y.1 = j then _ else f' j)
        rw [h]
    show ovl (ss (M.lay x)) l j = ovl (fun j => if x.1 = j then (0, wholeF x.2) else ss M j) l j
    exact hf _ _ _ (lay_ss a b x0 x1 j0)
/-- A sync that is let in. -/
theorem Dn.sy_good (h : Dn M N) (hd : M.down = false) (hf : ¬ M.fuse = 1) : Dn M.sy N ∧ M.sy.wait = [] ∧ M.sy.now = M.now ∧ M.sy.torn = M.torn ∧ ∀ j : Int, 0 ≤ j → j < N → ss M.sy j = ns M j := by
  obtain ⟨a, b, c, d, e⟩ := step_same M
  obtain ⟨p, q, r⟩ := fold_ss M.wait M.step (by rw [c]; exact h.s) (by rw [d]; exact h.b) h.w
  obtain ⟨u, v, _, _⟩ := fold_lay M.wait M.step
  have hs : M.sy = { M.step.wait.foldl DA.lay M.step with wait := [] } := by
    unfold DA.sy
    rw [if_neg (by rw [hd]; decide), if_neg hf]
  rw [e] at hs
  have hss : ∀ j : Int, 0 ≤ j → j < N → ss M.sy j = ns M j := fun j j0 j1 => by
    rw [hs]
    show ss (M.wait.foldl DA.lay M.step) j = _
    rw [r j j0 j1, h.y j j0 j1]
    have : ss M.step = ss M := by funext k; unfold ss; rw [c, d]
    rw [this]
  have hn : M.sy.now = M.now := by rw [hs]; exact u.trans a
  have ht : M.sy.torn = M.torn := by rw [hs]; exact v.trans b
  refine ⟨⟨by rw [hn]; exact h.n, by rw [ht]; exact h.t, by rw [hs]; exact p, by rw [hs]; exact q, (by rw [hs]; intro x hx; cases hx), fun j j0 j1 => ?_⟩, by rw [hs], hn, ht, hss⟩
  have hw : M.sy.wait = [] := by rw [hs]
  rw [hw]
  show ns M.sy j = ss M.sy j
  rw [hss j j0 j1]
  unfold ns
  rw [hn, ht]
theorem Dn.sy (h : Dn M N) : Dn M.sy N := by
  by_cases hd : M.down = true
  · unfold DA.sy; rw [if_pos hd]; exact h
  · by_cases hf : M.fuse = 1
    · obtain ⟨a, b, c, d, e⟩ := step_same M
      unfold DA.sy
      rw [if_neg hd, if_pos hf]
      exact ⟨by rw [a]; exact h.n, by rw [b]; exact h.t, by rw [c]; exact h.s, by rw [d]; exact h.b, by rw [e]; exact h.w, fun j j0 j1 => by
        have h1 : ns M.step = ns M := by funext k; unfold ns; rw [a, b]
        have h2 : ss M.step = ss M := by funext k; unfold ss; rw [c, d]
        rw [h1, h2, e]; exact h.y j j0 j1⟩
    · exact (h.sy_good (by cases hx : M.down <;> simp_all) hf).1
/-- What waits at place k. -/
def wk (M : DA) (k : Nat) : Int × List Int := M.wait.getD k (0, [])
structure OnK (M D : DA) (N k : Nat) (keep : List Bool) : Prop where
  s : D.safe.length = N
  b : D.bad.length = N
  o : ∀ j : Int, 0 ≤ j → j < N → (∀ i, i < k → (wk M i).1 ≠ j) → ss D j = ss M j
  y : ∀ i, i < k → keep.getD i false = true → ss D (wk M i).1 = (0, wholeF (wk M i).2)
  n : ∀ i, i < k → keep.getD i false = false → ss D (wk M i).1 = ss M (wk M i).1 ∨ ss D (wk M i).1 = (9, [])
theorem onK_see (h : Dn M N) (keep : List Bool) (tear : Int) (hd : ∀ i k, i < k → k < M.wait.length → (wk M i).1 ≠ (wk M k).1) : ∀ k, k ≤ M.wait.length → OnK M (DA.onK keep tear M k) N k keep := by
  have hr : ∀ k, k < M.wait.length → 0 ≤ (wk M k).1 ∧ (wk M k).1 < N := fun k hk => h.w _ (by
    unfold wk
    rw [List.getD_eq_getElem?_getD, List.getElem?_eq_getElem hk]
    exact List.getElem_mem hk)
  intro k
  induction k with
  | zero => intro _; exact ⟨h.s, h.b, fun _ _ _ _ => rfl, fun i hi => absurd hi (Nat.not_lt_zero _), fun i hi => absurd hi (Nat.not_lt_zero _)⟩
  | succ k ih =>
    intro hk
    have q := ih (by omega)
    obtain ⟨x0, x1⟩ := hr k (by omega)
    show OnK M (DA.onP keep tear (DA.onK keep tear M k) k (wk M k)) N (k + 1) keep
    unfold DA.onP
    have hne : ∀ i, i < k → (wk M k).1 ≠ (wk M i).1 := fun i hi => (hd i k hi (by omega)).symm
    by_cases hkp : keep.getD k false = true
    · rw [if_pos hkp]
      have hl := fun (j : Int) (j0 : 0 ≤ j) => lay_ss (M := DA.onK keep tear M k) q.s q.b x0 x1 j0
      refine ⟨by unfold DA.lay; simpa using q.s, by unfold DA.lay; simpa using q.b, fun j j0 j1 hj => ?_, fun i hi hy => ?_, fun i hi hn => ?_⟩
      · rw [hl j j0, if_neg (hj k (by omega))]
        exact q.o j j0 j1 (fun i hi => hj i (by omega))
      · by_cases e : i = k
        · rw [e, hl _ x0, if_pos rfl]
        · rw [hl _ (hr i (by omega)).1, if_neg (hne i (by omega))]
          exact q.y i (by omega) hy
      · have e : i ≠ k := fun e => by rw [e, hkp] at hn; cases hn
        rw [hl _ (hr i (by omega)).1, if_neg (hne i (by omega))]
        exact q.n i (by omega) hn
    · rw [if_neg hkp]
      have hkf : keep.getD k false = false := by cases hx : keep.getD k false <;> simp_all
      by_cases ht : (k : Int) = tear
      · rw [if_pos ht]
        have hl := fun (j : Int) (j0 : 0 ≤ j) => sees_bad (DA.onK keep tear M k).bad (DA.onK keep tear M k).safe q.b x0 x1 j0
        refine ⟨q.s, by simpa using q.b, fun j j0 j1 hj => ?_, fun i hi hy => ?_, fun i hi hn => ?_⟩
        · show sees _ _ j = _
          rw [hl j j0, if_neg (hj k (by omega))]
          exact q.o j j0 j1 (fun i hi => hj i (by omega))
        · have e : i ≠ k := fun e => by rw [e, hkf] at hy; cases hy
          show sees _ _ _ = _
          rw [hl _ (hr i (by omega)).1, if_neg (hne i (by omega))]
          exact q.y i (by omega) hy
        · by_cases e : i = k
          · right
            show sees _ _ _ = _
            rw [e, hl _ x0, if_pos rfl]
          · show sees _ _ _ = _ ∨ sees _ _ _ = _
            rw [hl _ (hr i (by omega)).1, if_neg (hne i (by omega))]
            exact q.n i (by omega) hn
      · rw [if_neg ht]
        refine ⟨q.s, q.b, fun j j0 j1 hj => q.o j j0 j1 (fun i hi => hj i (by omega)), fun i hi hy => ?_, fun i hi hn => ?_⟩
        · have e : i ≠ k := fun e => by rw [e, hkf] at hy; cases hy
          exact q.y i (by omega) hy
        · by_cases e : i = k
          · left
            rw [e]
            exact q.o _ x0 x1 (fun i hi => (hne i hi).symm)
          · exact q.n i (by omega) hn
/-- The power goes and comes: a disk that works. -/
theorem on_gd (h : Dn M N) (keep : List Bool) (tear : Int) (hd : ∀ i k, i < k → k < M.wait.length → (wk M i).1 ≠ (wk M k).1) : Gd (M.on keep tear) N ∧ Dn (M.on keep tear) N ∧
    (∀ j : Int, 0 ≤ j → j < N → (∀ i, i < M.wait.length → (wk M i).1 ≠ j) → (M.on keep tear).rdE j = (sdk M).rdE j ∧ (M.on keep tear).rdB j = (sdk M).rdB j) ∧
    (∀ i, i < M.wait.length → keep.getD i false = true → (M.on keep tear).rdE (wk M i).1 = 0 ∧ (M.on keep tear).rdB (wk M i).1 = wholeF (wk M i).2) ∧
    (∀ i, i < M.wait.length → keep.getD i false = false → ((M.on keep tear).rdE (wk M i).1 = (sdk M).rdE (wk M i).1 ∧ (M.on keep tear).rdB (wk M i).1 = (sdk M).rdB (wk M i).1) ∨ (M.on keep tear).rdE (wk M i).1 = 9) := by
  have hr : ∀ k, k < M.wait.length → 0 ≤ (wk M k).1 ∧ (wk M k).1 < N := fun k hk => h.w _ (by
    unfold wk
    rw [List.getD_eq_getElem?_getD, List.getElem?_eq_getElem hk]
    exact List.getElem_mem hk)
  have q := onK_see h keep tear hd M.wait.length (Nat.le_refl _)
  have hg : Gd (M.on keep tear) N := ⟨q.s, q.b, rfl, rfl⟩
  have hD : Dn (M.on keep tear) N := ⟨q.s, q.b, q.s, q.b, fun x hx => (List.not_mem_nil hx).elim, fun j _ _ => rfl⟩
  have hn : ∀ j, ns (M.on keep tear) j = ss (DA.onK keep tear M M.wait.length) j := fun j => rfl
  have hsn : ∀ j, ns (sdk M) j = ss M j := fun j => rfl
  refine ⟨hg, hD, fun j j0 j1 hj => see_eq h.sdk hg j0 j1 ?_, fun i hi hy => ?_, fun i hi hy => ?_⟩
  · rw [hn, hsn]; exact q.o j j0 j1 hj
  · obtain ⟨a, b⟩ := rd_ns hg (hr i hi).1 (hr i hi).2
    rw [a, b, hn, q.y i hi hy]
    exact ⟨rfl, rfl⟩
  · rcases q.n i hi hy with c | c
    · left
      exact see_eq h.sdk hg (hr i hi).1 (hr i hi).2 (by rw [hn, hsn]; exact c)
    · right
      rw [(rd_ns hg (hr i hi).1 (hr i hi).2).1, hn, c]
end
end Go.Proofs.Ytihmfccpgahmaaa.Wal

namespace Go.Proofs.Ytihmfccpgahmaaa.Wal
open Go Go.RowKit
open Go.Proofs.YtihmfccpgahmaaaW.PrintWords hiding Kept Kept.refl
open Go.Proofs.YtihmfccpgahmaaaW.PrintMore Go.Proofs.YtihmfccpgahmaaaW.PrintLast Go.Proofs.Ytihmfccpgahmaaa.Dk Go.Proofs.Ytihmfccpgahmaaa.Q Go.Proofs.Ytihmfccpgahmaaa.Str Go.Proofs.Ytihmfccpgahmaaa.Leb
set_option linter.unusedVariables false
set_option linter.unusedSimpArgs false
/-- The entry's rest, of parts alone. -/
def entR (R : Int → Part) (lsn : Int) : Nat → Int → Int → List Int → Ent
  | 0, _, _, _ => Ent.no 0
  | k + 1, n, life, out =>
    if (R n).bad lsn n life then Ent.no (R n).e
    else if (R n).last = true then ⟨out ++ bytesOf (R n).b, n + 1, (R n).life, true, 0⟩
    else entR R lsn k (n + 1) (R n).life (out ++ bytesOf (R n).b)
theorem ent_R (L : LA) (M : DA) (lsn : Int) : ∀ (k : Nat) (n life : Int) (out : List Int), L.ent M lsn k n life out = entR (L.rd M) lsn k n life out
  | 0, _, _, _ => rfl
  | k + 1, n, life, out => by
    rw [LA.ent_succ, ent_R L M lsn k]
    rfl
theorem entR_succ (R : Int → Part) (lsn : Int) (k : Nat) (n life : Int) (out : List Int) : entR R lsn (k + 1) n life out = if (R n).bad lsn n life then Ent.no (R n).e else if (R n).last = true then ⟨out ++ bytesOf (R n).b, n + 1, (R n).life, true, 0⟩ else entR R lsn k (n + 1) (R n).life (out ++ bytesOf (R n).b) := rfl
/-- That there is no entry. -/
def Ent.nix (x : Ent) : Prop := x.ok = false ∧ x.e = 0
theorem nix_no : (Ent.no 0).nix := ⟨rfl, rfl⟩
theorem nix_bad {R : Int → Part} {lsn n life : Int} (he : (R n).e = 0) (hb : (R n).bad lsn n life) (k : Nat) (out : List Int) : (entR R lsn k n life out).nix := by
  cases k with
  | zero => exact nix_no
  | succ k =>
    rw [entR_succ, if_pos hb, he]
    exact nix_no
/-- No entry begins at z, of a life that isn't elder than lf, however far one looks. -/
def NoE (R : Int → Part) (z lf : Int) : Prop := ∀ F, (entR R z F z lf []).nix
theorem NoE.bad {R : Int → Part} {z lf : Int} (he : (R z).e = 0) (h : (R z).ok = true → (R z).life < lf) : NoE R z lf := fun F => by
  refine nix_bad he ?_ F []
  by_cases hk : (R z).ok = true
  · exact .inr (.inr (.inl (h hk)))
  · exact .inr (.inl (by cases hx : (R z).ok <;> simp_all))
section
variable {R R' Rs : Int → Part} {lam : Int}
theorem bad_ok {q : Part} {lsn n life : Int} (h : ¬ q.bad lsn n life) : q.e = 0 ∧ q.ok = true ∧ life ≤ q.life ∧ (lsn < n → q.life = life) := by
  unfold Part.bad at h
  refine ⟨?_, ?_, ?_, fun hl => ?_⟩
  · exact Decidable.byContradiction fun hc => h (.inl hc)
  · cases hx : q.ok
    · exact absurd (.inr (.inl hx)) h
    · rfl
  · exact Int.not_lt.1 fun hc => h (.inr (.inr (.inl hc)))
  · exact Decidable.byContradiction fun hc => h (.inr (.inr (.inr ⟨hl, hc⟩)))
/-- An elder entry's rest isn't mended by what is younger. -/
theorem entR_mix {z : Int} (he : ∀ m, (R' m).e = 0) : ∀ (F : Nat) (n l : Int) (out : List Int), z < n → l < lam → (∀ m, n ≤ m → R' m = R m ∨ (R' m).ok = false ∨ (R' m).life = lam) → (entR R' z F n l out).nix ∨ entR R' z F n l out = entR R z F n l out
  | 0, _, _, _, _, _, _ => .inl nix_no
  | F + 1, n, l, out, hz, hl, h => by
    rcases h n (Int.le_refl _) with h1 | h1 | h1
    · rw [entR_succ, entR_succ, h1]
      by_cases hb : (R n).bad z n l
      · right; rw [if_pos hb, if_pos hb]
      · rw [if_neg hb, if_neg hb]
        by_cases hla : (R n).last = true
        · right; rw [if_pos hla, if_pos hla]
        · rw [if_neg hla, if_neg hla]
          have hq := (bad_ok hb).2.2.2 hz
          exact entR_mix he F (n + 1) _ _ (by omega) (by omega) (fun m hm => h m (by omega))
    · exact .inl (nix_bad (he n) (.inr (.inl h1)) _ _)
    · exact .inl (nix_bad (he n) (.inr (.inr (.inr ⟨hz, by omega⟩))) _ _)
theorem NoE.mix {z lf : Int} (h : NoE R z lf) (he : ∀ m, (R' m).e = 0) (h0 : R' z = R z ∨ (R' z).ok = false) (hl : (R z).ok = true → (R z).life < lam) (hm : ∀ m, z < m → R' m = R m ∨ (R' m).ok = false ∨ (R' m).life = lam) : NoE R' z lf := by
  intro F
  cases F with
  | zero => exact nix_no
  | succ F =>
    rcases h0 with h0 | h0
    · have h2 := h (F + 1)
      rw [entR_succ] at h2 ⊢
      rw [h0]
      by_cases hb : (R z).bad z z lf
      · rw [if_pos hb] at h2 ⊢; exact h2
      · rw [if_neg hb] at h2 ⊢
        by_cases hla : (R z).last = true
        · rw [if_pos hla] at h2; cases h2.1
        · rw [if_neg hla] at h2 ⊢
          have hq := bad_ok hb
          rcases entR_mix (R := R) (R' := R') (lam := lam) (z := z) he F (z + 1) (R z).life ([] ++ bytesOf (R z).b) (by omega) (hl hq.2.1) (fun m hm2 => hm m (by omega)) with h3 | h3
          · exact h3
          · rw [h3]; exact h2
    · exact nix_bad (he z) (.inr (.inl h0)) _ _
/-- An entry of which a sector is lost isn't there. -/
theorem entR_lost {z : Int} (he : ∀ m, (R' m).e = 0) : ∀ (k F : Nat) (n l : Int) (r out : List Int), lies Rs lam k n r → (∃ m, n ≤ m ∧ m < n + needN r.length ∧ R' m ≠ Rs m) → (∀ m, n ≤ m → m < n + needN r.length → R' m = Rs m ∨ (R' m).ok = false ∨ (R' m).life < lam) → (z < n → l = lam) → z ≤ n → (n = z → R' n = Rs n) → (entR R' z F n l out).nix
  | 0, _, _, _, _, _, h, _, _, _, _, _ => h.elim
  | k + 1, 0, _, _, _, _, _, _, _, _, _, _ => nix_no
  | k + 1, F + 1, n, l, r, out, h, hm, hr, hl, hz, h0 => by
    have hp := needN_pos r.length
    by_cases hn : R' n = Rs n
    · rw [entR_succ, hn, h.1]
      by_cases hb : Part.bad ⟨lam, decide (r.length ≤ 480), strOfNums (r.take 480), true, 0⟩ z n l
      · rw [if_pos hb]; exact nix_no
      · rw [if_neg hb]
        obtain ⟨m, m0, m1, m2⟩ := hm
        have hne : m ≠ n := fun e => m2 (by rw [e]; exact hn)
        have hlen : 480 < r.length := by
          by_cases hc : r.length ≤ 480
          · rw [needN_one hc] at m1; omega
          · omega
        rw [if_neg (by show ¬ decide (r.length ≤ 480) = true; rw [decide_eq_true_eq]; omega)]
        have hn1 := needN_more hlen
        have hd : (r.drop 480).length = r.length - 480 := List.length_drop
        refine entR_lost he k F (n + 1) lam (r.drop 480) _ (h.2 hlen) ⟨m, by omega, by rw [hd]; omega, m2⟩ (fun m a b => hr m (by omega) (by rw [hd] at b; omega)) (fun _ => rfl) (by omega) (fun e => by omega)
    · have hzn : z < n := by
        have : n ≠ z := fun e => hn (h0 e)
        omega
      rcases hr n (Int.le_refl _) (by omega) with c | c | c
      · exact absurd c hn
      · exact nix_bad (he n) (.inr (.inl c)) _ _
      · exact nix_bad (he n) (.inr (.inr (.inl (by rw [hl hzn]; exact c)))) _ _
theorem Ents.append {b z : Int} {t : List (Int × List Int)} : ∀ (es : List (Int × List Int)) (a lf : Int), Ents R a lf es b → Ents R b (lastL lf es) t z → Ents R a lf (es ++ t) z
  | [], a, lf, h, h2 => by have e : a = b := h; rw [e]; exact h2
  | x :: es, a, lf, h, h2 => ⟨h.1, h.2.1, h.2.2.1, Ents.append es _ _ h.2.2.2 h2⟩
theorem lastL_append (t : List (Int × List Int)) : ∀ (es : List (Int × List Int)) (lf : Int), lastL lf (es ++ t) = lastL (lastL lf es) t
  | [], _ => rfl
  | x :: es, lf => lastL_append t es x.1
theorem lastL_all : ∀ (t : List (Int × List Int)) (lf : Int), (∀ x ∈ t, x.1 = lam) → t ≠ [] → lastL lf t = lam
  | [], _, _, h => absurd rfl h
  | [x], lf, h, _ => h x (List.mem_cons_self ..)
  | x :: y :: t, lf, h, _ => lastL_all (y :: t) x.1 (fun v hv => h v (List.mem_cons_of_mem _ hv)) (by simp)
/-- The first ones of the rest: those of which all sectors were kept. -/
theorem ents_split (kept : Int → Prop) {z : Int} : ∀ (ws : List (Int × List Int)) (a lf : Int), Ents Rs a lf ws z → ∃ t1 t2 b, ws = t1 ++ t2 ∧ Ents Rs a lf t1 b ∧ Ents Rs b (lastL lf t1) t2 z ∧ (∀ m, a ≤ m → m < b → kept m) ∧ (t2 = [] ∨ ∃ x t, t2 = x :: t ∧ ∃ m, b ≤ m ∧ m < b + needN x.2.length ∧ ¬ kept m)
  | [], a, lf, h => ⟨[], [], a, rfl, rfl, h, fun m x y => by omega, .inl rfl⟩
  | x :: ws, a, lf, h => by
    by_cases hk : ∀ m, a ≤ m → m < a + needN x.2.length → kept m
    · obtain ⟨t1, t2, b, e, h1, h2, h3, h4⟩ := ents_split kept ws _ _ h.2.2.2
      refine ⟨x :: t1, t2, b, by rw [e]; rfl, ⟨h.1, h.2.1, h.2.2.1, h1⟩, h2, fun m m0 m1 => ?_, h4⟩
      by_cases hm : m < a + needN x.2.length
      · exact hk m m0 hm
      · exact h3 m (by omega) m1
    · refine ⟨[], x :: ws, a, rfl, rfl, h, fun m m0 m1 => by omega, .inr ⟨x, ws, rfl, ?_⟩⟩
      exact Classical.byContradiction fun hc => hk fun m m0 m1 => Classical.byContradiction fun h2 => hc ⟨m, m0, m1, h2⟩
/-- How many sectors entries take. -/
def szs : List (Int × List Int) → Int
  | [] => 0
  | x :: t => needN x.2.length + szs t
theorem Ents.size {z : Int} : ∀ (es : List (Int × List Int)) (a lf : Int), Ents R a lf es z → z = a + szs es
  | [], a, lf, h => by have e : a = z := h; show z = a + 0; omega
  | x :: t, a, lf, h => by
    have := Ents.size t _ _ h.2.2.2
    show z = a + (needN x.2.length + szs t)
    omega
/-- What is left. -/
structure Left (R' : Int → Part) (start floor forced next lam : Int) (es ws : List (Int × List Int)) (kept : Int → Prop) (t1 t2 : List (Int × List Int)) (z : Int) : Prop where
  w : ws = t1 ++ t2
  s : Ents R' start floor (es ++ t1) z
  no : NoE R' z (lastL floor (es ++ t1))
  low : ∀ m, z ≤ m → (R' m).ok = true → (R' m).life ≤ lam
  z0 : forced ≤ z
  z1 : z ≤ next
  k : ∀ m, forced ≤ m → m < z → kept m
  zl : z = forced + szs t1
  n : t2 = [] ∨ ∃ x t, t2 = x :: t ∧ ∃ m, z ≤ m ∧ m < z + needN x.2.length ∧ ¬ kept m
theorem crash_parts {start floor forced next : Int} {es ws : List (Int × List Int)} {kept : Int → Prop}
    (hes : Ents R start floor es forced) (hws : Ents Rs forced (lastL floor es) ws next) (hwl : ∀ x ∈ ws, x.1 = lam)
    (hlow : ∀ m, forced ≤ m → (R m).ok = true → (R m).life < lam) (hno : NoE R forced (lastL floor es)) (he' : ∀ m, (R' m).e = 0)
    (h1 : ∀ m, start ≤ m → m < forced → R' m = R m)
    (h2 : ∀ m, forced ≤ m → m < next → kept m → R' m = Rs m)
    (h3 : ∀ m, forced ≤ m → (m < next → ¬ kept m) → R' m = R m ∨ (R' m).ok = false) (hr : ∀ m, forced ≤ m → m < next → (Rs m).life = lam ∧ (Rs m).ok = true) :
    ∃ t1 t2 z, Left R' start floor forced next lam es ws kept t1 t2 z := by
  obtain ⟨t1, t2, z, e, a1, a2, a3, a4⟩ := ents_split kept ws _ _ hws
  have z0 := Ents.le _ _ _ a1
  have z1 := Ents.le _ _ _ a2
  have s0 := Ents.le _ _ _ hes
  have hany : ∀ m, forced ≤ m → R' m = R m ∨ (R' m).ok = false ∨ (R' m).life = lam := fun m hm => by
    by_cases hk : m < next ∧ kept m
    · right; right; rw [h2 m hm hk.1 hk.2]; exact (hr m hm hk.1).1
    · rcases h3 m hm (fun a b => hk ⟨a, b⟩) with c | c
      · exact .inl c
      · exact .inr (.inl c)
  have hlost : ∀ m, forced ≤ m → (m < next → ¬ kept m) → (R' m).ok = true → (R' m).life < lam := fun m hm hk ho => by
    rcases h3 m hm hk with c | c
    · rw [c] at ho ⊢; exact hlow m hm ho
    · rw [c] at ho; cases ho
  have hS1 : Ents R' start floor es forced := Ents.frame es _ _ (fun m x y => h1 m x y) hes
  have hS : Ents R' start floor (es ++ t1) z := Ents.append es _ _ hS1 (Ents.frame t1 _ _ (fun m x y => h2 m x (by omega) (a3 m x y)) a1)
  have hll : t1 ≠ [] → lastL floor (es ++ t1) = lam := fun hne => by
    rw [lastL_append]
    exact lastL_all t1 _ (fun x hx => hwl x (by rw [e]; exact List.mem_append_left _ hx)) hne
  have hnot : (z < next → ¬ kept z) → NoE R' z (lastL floor (es ++ t1)) := fun hk => by
    by_cases ht : t1 = []
    · subst ht
      have ez : forced = z := a1
      rw [List.append_nil, ← ez]
      rw [← ez] at hk
      exact hno.mix (lam := lam) he' (h3 forced (Int.le_refl _) hk) (hlow _ (Int.le_refl _)) (fun m hm => hany m (by omega))
    · exact NoE.bad (he' z) (fun ho => by rw [hll ht]; exact hlost z z0 hk ho)
  refine ⟨t1, t2, z, e, hS, ?_, fun m hm ho => ?_, z0, z1, a3, Ents.size _ _ _ a1, a4⟩
  · by_cases hk : z < next ∧ kept z
    · rcases a4 with a4 | ⟨x, t, e2, m, m0, m1, m2⟩
      · rw [a4] at a2
        have : z = next := a2
        omega
      · rw [e2] at a2
        have hle := Ents.le _ _ _ a2.2.2.2
        have hx : x.1 = lam := hwl x (by rw [e, e2]; exact List.mem_append_right _ (List.mem_cons_self ..))
        intro F
        have hlx := a2.2.2.1
        rw [hx] at hlx
        refine entR_lost he' _ F z _ x.2 [] hlx ⟨m, m0, m1, fun hc => ?_⟩ (fun n n0 n1 => ?_) (fun h => by omega) (Int.le_refl _) (fun _ => h2 z z0 hk.1 hk.2)
        · have := hlost m (by omega) (fun _ => m2) (by rw [hc]; exact (hr m (by omega) (by omega)).2)
          rw [hc, (hr m (by omega) (by omega)).1] at this
          omega
        · by_cases hkn : kept n
          · exact .inl (h2 n (by omega) (by omega) hkn)
          · by_cases ho : (R' n).ok = true
            · exact .inr (.inr (hlost n (by omega) (fun _ => hkn) ho))
            · exact .inr (.inl (by cases hx : (R' n).ok <;> simp_all))
    · exact hnot (fun a b => hk ⟨a, b⟩)
  · by_cases hk : m < next ∧ kept m
    · rw [h2 m (by omega) hk.1 hk.2, (hr m (by omega) hk.1).1]
      exact Int.le_refl _
    · exact Int.le_of_lt (hlost m (by omega) (fun a b => hk ⟨a, b⟩) ho)
end
end Go.Proofs.Ytihmfccpgahmaaa.Wal

namespace Go.Proofs.Ytihmfccpgahmaaa.Wal
open Go Go.RowKit
open Go.Proofs.YtihmfccpgahmaaaW.PrintWords hiding Kept Kept.refl
open Go.Proofs.YtihmfccpgahmaaaW.PrintMore Go.Proofs.YtihmfccpgahmaaaW.PrintLast Go.Proofs.Ytihmfccpgahmaaa.Dk Go.Proofs.Ytihmfccpgahmaaa.Q Go.Proofs.Ytihmfccpgahmaaa.Str Go.Proofs.Ytihmfccpgahmaaa.Leb
set_option linter.unusedVariables false
set_option linter.unusedSimpArgs false
theorem ovl_other : ∀ (l : List (Int × List Int)) (f : Int → Int × List Int) (j : Int), (∀ x ∈ l, x.1 ≠ j) → ovl f l j = f j
  | [], f, j, _ => rfl
  | x :: l, f, j, h => by
    show ovl (fun j => if x.1 = j then (0, wholeF x.2) else f j) l j = f j
    rw [ovl_other l _ j (fun y hy => h y (List.mem_cons_of_mem _ hy)), if_neg (h x (List.mem_cons_self ..))]
theorem lies_life {R : Int → Part} {life : Int} : ∀ (k : Nat) (n : Int) (r : List Int), lies R life k n r → ∀ m, n ≤ m → m < n + needN r.length → (R m).life = life ∧ (R m).ok = true
  | 0, _, _, h => h.elim
  | k + 1, n, r, h => fun m a b => by
    by_cases hm : m = n
    · rw [hm, h.1]; exact ⟨rfl, rfl⟩
    · by_cases hl : r.length ≤ 480
      · rw [needN_one hl] at b; omega
      · exact lies_life k (n + 1) (r.drop 480) (h.2 (by omega)) m (by omega) (by rw [List.length_drop]; have := needN_more (show 480 < r.length by omega); omega)
theorem ents_life {R : Int → Part} {lam z : Int} : ∀ (ws : List (Int × List Int)) (a lf : Int), Ents R a lf ws z → (∀ x ∈ ws, x.1 = lam) → ∀ m, a ≤ m → m < z → (R m).life = lam ∧ (R m).ok = true
  | [], a, lf, h, _, m, m0, m1 => by have e : a = z := h; omega
  | x :: t, a, lf, h, hx, m, m0, m1 => by
    by_cases hm : m < a + needN x.2.length
    · have := lies_life _ _ _ h.2.2.1 m m0 hm
      rw [hx x (List.mem_cons_self ..)] at this
      exact this
    · exact ents_life t _ _ h.2.2.2 (fun y hy => hx y (List.mem_cons_of_mem _ hy)) m (by omega) m1
theorem lastL_le {R : Int → Part} {z : Int} : ∀ (es : List (Int × List Int)) (a lf : Int), Ents R a lf es z → lf ≤ lastL lf es
  | [], _, _, _ => Int.le_refl _
  | x :: t, a, lf, h => Int.le_trans h.2.1 (lastL_le t _ _ h.2.2.2)
/-- An entry's sectors as Append wrote them. -/
theorem wrs_at {R : Int → Part} : ∀ (k : Nat) (r : List Int) (L : LA), 0 ≤ L.next → L.next + needN r.length ≤ 9223372036854775807 → 0 ≤ L.life → L.life ≤ 1099511627776 → lies R L.life k L.next r → (L.wrs k r).length = needN r.length ∧ ∀ i : Nat, i < needN r.length → ((L.wrs k r).getD i (0, [])).1 = L.pl (L.next + i) ∧ prt (wholeF ((L.wrs k r).getD i (0, [])).2) (L.next + i) = R (L.next + i)
  | 0, _, _, _, _, _, _, h => h.elim
  | k + 1, r, L, n0, n1, l0, l1, h => by
    have hp := needN_pos r.length
    have h0 : prt (wholeF (secB L.next L.life (decide (r.length ≤ 480)) (r.take 480))) L.next = R L.next := by
      rw [prt_sec n0 (by omega) l0 l1 (by rw [List.length_take]; omega), h.1]
    by_cases hl : r.length ≤ 480
    · have e : L.wrs (k + 1) r = [(L.pl L.next, secB L.next L.life (decide (r.length ≤ 480)) (r.take 480))] := by
        show _ :: (if r.length ≤ 480 then [] else _) = _
        rw [if_pos hl]
      rw [e, needN_one hl]
      refine ⟨rfl, fun i hi => ?_⟩
      have hi0 : i = 0 := by omega
      subst hi0
      rw [show L.next + ((0 : Nat) : Int) = L.next by omega]
      exact ⟨rfl, h0⟩
    · have hn := needN_more (show 480 < r.length by omega)
      have hd : (r.drop 480).length = r.length - 480 := List.length_drop
      obtain ⟨a, b⟩ := wrs_at k (r.drop 480) L.app1 (by show 0 ≤ L.next + 1; omega) (by show L.next + 1 + _ ≤ _; rw [hd]; omega) l0 l1 (h.2 (by omega))
      have e : L.wrs (k + 1) r = (L.pl L.next, secB L.next L.life (decide (r.length ≤ 480)) (r.take 480)) :: L.app1.wrs k (r.drop 480) := by
        show _ :: (if r.length ≤ 480 then [] else _) = _
        rw [if_neg hl]
      rw [e, hn]
      refine ⟨by rw [List.length_cons, a, hd], fun i hi => ?_⟩
      cases i with
      | zero =>
        rw [show L.next + ((0 : Nat) : Int) = L.next by omega]
        exact ⟨rfl, h0⟩
      | succ i =>
        have := b i (by rw [hd]; omega)
        have e2 : L.app1.next + (i : Int) = L.next + ((i + 1 : Nat) : Int) := by show L.next + 1 + (i : Int) = _; omega
        rw [e2] at this
        exact this
theorem wr_safe (M : DA) (i : Int) (l : List Int) : (M.wr i l).safe = M.safe ∧ (M.wr i l).bad = M.bad := by
  obtain ⟨a, b, c, d, e⟩ := step_same M
  unfold DA.wr
  split
  · exact ⟨c, d⟩
  · exact ⟨rfl, rfl⟩
section
variable {M M' : DA} {N c : Nat} {L : LA} {es ws : List (Int × List Int)}
theorem app_safe (hg : Geo L N) : ∀ (k : Nat) (r : List Int) (x : Int) (M : DA), Dn M N → Dn (({ L with next := x } : LA).app M k r).M N ∧ (({ L with next := x } : LA).app M k r).M.safe = M.safe ∧ (({ L with next := x } : LA).app M k r).M.bad = M.bad
  | 0, r, x, M, h => ⟨h, rfl, rfl⟩
  | k + 1, r, x, M, h => by
    obtain ⟨p0, p1, _⟩ := hg.pl x
    rw [app_succ]
    have one := fun l : List Int => h.wr (i := L.pl x) p0 p1 l
    have two := fun l : List Int => wr_safe M (L.pl x) l
    split
    · split
      · exact ⟨one _, (two _).1, (two _).2⟩
      · obtain ⟨a, b, c⟩ := app_safe hg k (r.drop 480) (x + 1) _ (one (secB x L.life (decide (r.length ≤ 480)) (r.take 480)))
        exact ⟨a, b.trans (two _).1, c.trans (two _).2⟩
    · exact ⟨one _, (two _).1, (two _).2⟩
theorem sdk_see (h : Dn M N) (h' : Dn M' N) (hs : M'.safe = M.safe) (hb : M'.bad = M.bad) {j : Int} (j0 : 0 ≤ j) (j1 : j < N) : (sdk M').rdE j = (sdk M).rdE j ∧ (sdk M').rdB j = (sdk M).rdB j :=
  see_eq h.sdk h'.sdk j0 j1 (by show sees M'.bad M'.safe j = sees M.bad M.safe j; rw [hs, hb])
/-- What is safe of a log, and what waits. -/
structure CI (N c : Nat) (L : LA) (M : DA) (es ws : List (Int × List Int)) (Rs : Int → Part) (nx : Int) : Prop where
  f0 : 0 ≤ L.fr
  r0 : 0 < L.ring
  fn : L.fr + 2 + L.ring ≤ N
  n6 : N ≤ 65536
  q0 : 0 ≤ L.seq
  q1 : L.seq ≤ c
  l0 : 0 ≤ L.life
  l1 : L.life ≤ c
  s0 : 0 ≤ L.start
  o0 : 0 ≤ L.floor
  o1 : L.floor ≤ L.life
  sf : L.start ≤ L.forced
  fx : L.forced ≤ nx
  nr : nx ≤ L.start + L.ring
  x1 : nx ≤ 40 * c
  D : Dn M N
  Y : DY M
  eS : Ents (L.rd (sdk M)) L.start L.floor es L.forced
  eW : Ents Rs L.forced (lastL L.floor es) ws nx
  wl : ∀ x ∈ ws, x.1 = L.life
  ll : lastL L.floor es ≤ L.life
  low : ∀ m, L.forced ≤ m → (L.rd (sdk M) m).ok = true → (L.rd (sdk M) m).life < L.life
  no : NoE (L.rd (sdk M)) L.forced (lastL L.floor es)
  ma : Mas L (sdk M)
  wn : (M.wait.length : Int) ≤ nx - L.forced
  wa : ∀ k : Nat, k < M.wait.length → (wk M k).1 = L.pl (L.forced + k) ∧ prt (wholeF (wk M k).2) (L.forced + k) = Rs (L.forced + k)
structure LI (N c : Nat) (L : LA) (M : DA) (es ws : List (Int × List Int)) : Prop where
  C : CI N c L M es ws (L.rd M) L.next
  g : Gd M N
  wf : (M.wait.length : Int) = L.next - L.forced
theorem CI.geo {Rs : Int → Part} {nx : Int} (h : CI N c L M es ws Rs nx) (hc : c ≤ 1000000) : Geo L N := ⟨h.f0, h.r0, h.fn, h.l0, by have := h.l1; omega⟩
theorem CI.bd {Rs : Int → Part} {nx : Int} (h : CI N c L M es ws Rs nx) (hc : c ≤ 1000000) : Bd L := by
  have := h.q1; have := h.l1; have := h.x1; have := h.sf; have := h.fx; have := h.o1
  exact ⟨h.q0, by omega, h.l0, by omega, h.s0, by omega, h.o0, by omega⟩
theorem LI.ok (h : LI N c L M es ws) (hc : c ≤ 1000000) : L.Ok M.now.length := by
  have := h.C.q1; have := h.C.l1; have := h.C.x1; have := h.C.sf; have := h.C.fx; have := h.C.o1; have := h.C.s0
  rw [h.g.n]
  exact { f0 := h.C.f0, r0 := h.C.r0, fn := h.C.fn, n6 := h.C.n6, q0 := h.C.q0, q1 := (by omega), l0 := h.C.l0, l1 := (by omega), s0 := h.C.s0, o0 := h.C.o0, o1 := (by omega), sn := (by omega), nr := h.C.nr, nx := (by omega), c0 := (by omega), c1 := h.C.fx }
theorem LI.mono (h : LI N c L M es ws) {c' : Nat} (hc : c ≤ c') : LI N c' L M es ws :=
  ⟨{ h.C with q1 := (by have := h.C.q1; omega), l1 := (by have := h.C.l1; omega), x1 := (by have := h.C.x1; omega) }, h.g, h.wf⟩
theorem wk_mem {k : Nat} (hk : k < M.wait.length) : wk M k ∈ M.wait := by
  unfold wk
  rw [List.getD_eq_getElem?_getD, List.getElem?_eq_getElem hk]
  exact List.getElem_mem hk
theorem mem_wk {x : Int × List Int} (h : x ∈ M.wait) : ∃ k, k < M.wait.length ∧ wk M k = x := by
  obtain ⟨k, hk, e⟩ := List.getElem_of_mem h
  refine ⟨k, hk, ?_⟩
  unfold wk
  rw [List.getD_eq_getElem?_getD, List.getElem?_eq_getElem hk, e]
  rfl
/-- What doesn't wait is as it is safe. -/
theorem LI.other (h : LI N c L M es ws) {j : Int} (j0 : 0 ≤ j) (j1 : j < N) (hj : ∀ m, L.forced ≤ m → m < L.next → L.pl m ≠ j) : M.rdE j = (sdk M).rdE j ∧ M.rdB j = (sdk M).rdB j := by
  refine see_eq h.C.D.sdk h.g j0 j1 ?_
  rw [h.C.D.y j j0 j1]
  refine ovl_other _ _ _ (fun x hx => ?_)
  obtain ⟨k, hk, e⟩ := mem_wk hx
  rw [← e, (h.C.wa k hk).1]
  have := h.wf
  exact hj _ (by omega) (by omega)
theorem LI.same (h : LI N c L M es ws) (hc : c ≤ 1000000) {m : Int} (m0 : L.start ≤ m) (m1 : m < L.forced) : L.rd M m = L.rd (sdk M) m := by
  obtain ⟨p0, p1, _⟩ := (h.C.geo hc).pl m
  have := h.C.nr
  exact rd_cong (h.other p0 p1 (fun n n0 n1 => pl_ne h.C.r0 (by omega) (by omega) (by omega)))
/-- All entries, as they are read. -/
theorem LI.ents (h : LI N c L M es ws) (hc : c ≤ 1000000) : Ents (L.rd M) L.start L.floor (es ++ ws) L.next :=
  Ents.append es _ _ (Ents.frame es _ _ (fun m x y => h.same hc x y) h.C.eS) h.C.eW
theorem LI.mN (h : LI N c L M es ws) (hc : c ≤ 1000000) : Mas L M :=
  h.C.ma.frame (fun n n0 n1 => h.other (by have := h.C.f0; omega) (by have := h.C.fn; have := h.C.r0; omega) (fun m _ _ hpl => by have := ((h.C.geo hc).pl m).2.2; omega))
theorem LI.lowN (h : LI N c L M es ws) (hc : c ≤ 1000000) (m : Int) (m0 : L.next ≤ m) (ho : (L.rd M m).ok = true) : (L.rd M m).life < L.life := by
  obtain ⟨p0, p1, _⟩ := (h.C.geo hc).pl m
  by_cases hx : ∃ n, (L.forced ≤ n ∧ n < L.next) ∧ L.pl n = L.pl m
  · obtain ⟨n, ⟨a, b⟩, e⟩ := hx
    have := (rd_apart (ents_life _ _ _ h.C.eW h.C.wl n a b).2 e.symm (by omega)).1
    rw [this] at ho; cases ho
  · have e : L.rd M m = L.rd (sdk M) m := rd_cong (h.other p0 p1 (fun n a b q => hx ⟨n, ⟨a, b⟩, q⟩))
    rw [e] at ho ⊢
    exact h.C.low m (by have := h.C.fx; omega) ho
theorem LI.last (h : LI N c L M es ws) : lastL L.floor (es ++ ws) ≤ L.life := by
  rw [lastL_append]
  by_cases hw : ws = []
  · rw [hw]; exact h.C.ll
  · rw [lastL_all ws _ h.C.wl hw]; exact Int.le_refl _
theorem ents_nil {R : Int → Part} {a lf : Int} {ws : List (Int × List Int)} (h : Ents R a lf ws a) : ws = [] := by
  cases ws with
  | nil => rfl
  | cons x t =>
    have := Ents.le _ _ _ h.2.2.2
    have := needN_pos x.2.length
    omega
/-- Behind the end no entry begins. -/
theorem rdE_zero (hg : Gd M N) (hgeo : Geo L N) (m : Int) : (L.rd M m).e = 0 := by
  obtain ⟨p0, p1, _⟩ := hgeo.pl m
  have := rdE_good hg p0 p1
  rcases (show M.rdE (L.pl m) = 9 ∨ M.rdE (L.pl m) = 0 by rw [this]; split; exact .inl rfl; exact .inr rfl) with e | e
  · unfold LA.rd
    rw [if_neg (by rw [e]; decide), if_pos e]
  · unfold LA.rd
    rw [if_pos e]
    rfl
theorem LI.noN (h : LI N c L M es ws) (hc : c ≤ 1000000) : NoE (L.rd M) L.next (lastL L.floor (es ++ ws)) := by
  by_cases hw : ws = []
  · subst hw
    have e : L.forced = L.next := h.C.eW
    rw [List.append_nil]
    have hrd : ∀ m, L.rd M m = L.rd (sdk M) m := fun m => by
      obtain ⟨p0, p1, _⟩ := (h.C.geo hc).pl m
      exact rd_cong (h.other p0 p1 (fun n a b => by omega))
    have : L.rd M = L.rd (sdk M) := funext hrd
    rw [this, ← e]
    exact h.C.no
  · refine NoE.bad (rdE_zero h.g (h.C.geo hc) _) (fun ho => ?_)
    rw [lastL_append, lastL_all ws _ h.C.wl hw]
    exact h.lowN hc _ (Int.le_refl _) ho
/-- A log of which nothing waits. -/
theorem LI.flat (hg : Gd M N) (hD : Dn M N) (hY : DY M) (hw : M.wait = []) (hn : ∀ j : Int, 0 ≤ j → j < N → ss M j = ns M j) (f0 : 0 ≤ L.fr) (r0 : 0 < L.ring) (fn : L.fr + 2 + L.ring ≤ N) (n6 : N ≤ 65536) (q0 : 0 ≤ L.seq) (q1 : L.seq ≤ c) (l0 : 0 ≤ L.life) (l1 : L.life ≤ c)
    (s0 : 0 ≤ L.start) (o0 : 0 ≤ L.floor) (o1 : L.floor ≤ L.life) (hf : L.forced = L.next) (nr : L.next ≤ L.start + L.ring) (x1 : L.next ≤ 40 * c) (hc : c ≤ 1000000)
    (he : Ents (L.rd M) L.start L.floor es L.next) (ll : lastL L.floor es ≤ L.life) (low : ∀ m, L.next ≤ m → (L.rd M m).ok = true → (L.rd M m).life < L.life) (no : NoE (L.rd M) L.next (lastL L.floor es)) (ma : Mas L M) : LI N c L M es [] := by
  have hgeo : Geo L N := ⟨f0, r0, fn, l0, by omega⟩
  have hsee : ∀ j : Int, 0 ≤ j → j < N → (sdk M).rdE j = M.rdE j ∧ (sdk M).rdB j = M.rdB j := fun j a b => see_eq hg hD.sdk a b (hn j a b)
  have hrd : L.rd (sdk M) = L.rd M := funext fun m => by
    obtain ⟨p0, p1, _⟩ := hgeo.pl m
    exact rd_cong (hsee _ p0 p1)
  refine ⟨{ f0 := f0, r0 := r0, fn := fn, n6 := n6, q0 := q0, q1 := q1, l0 := l0, l1 := l1, s0 := s0, o0 := o0, o1 := o1, sf := by rw [hf]; exact Ents.le _ _ _ he, fx := by omega, nr := nr, x1 := x1, D := hD, Y := hY, eS := by rw [hrd, hf]; exact he, eW := hf, wl := fun x hx => (List.not_mem_nil hx).elim, ll := ll, low := by rw [hrd, hf]; exact low, no := by rw [hrd, hf]; exact no, ma := ma.frame (fun n n0 n1 => hsee _ (by omega) (by omega)), wn := by rw [hw, hf]; simp, wa := fun k hk => by rw [hw] at hk; exact absurd hk (Nat.not_lt_zero _) }, hg, by rw [hw, hf]; simp⟩
theorem LI.append (h : LI N c L M es ws) (hc : c ≤ 1000000) {b : List Int} (hb : Byt b) (hl : b.length ≤ 16384) (hr : (needN b.length : Int) ≤ L.free) :
    ∃ M', L.append M b = ⟨L.next, 0, { L with next := L.next + needN b.length }, M'⟩ ∧ LI N (c + 1) { L with next := L.next + needN b.length } M' es (ws ++ [(L.life, b)]) ∧ M'.wait = M.wait ++ L.wrs (needN b.length) b := by
  have hgeo := h.C.geo hc
  have hn35 : needN b.length ≤ 35 := by unfold needN; omega
  have hnp := needN_pos b.length
  have hx1 := h.C.x1
  have hs0 := h.C.s0
  have hsf := h.C.sf
  have hfx := h.C.fx
  have hq1 := h.C.q1
  have hl1 := h.C.l1
  obtain ⟨M1, e1, hA⟩ := append_good (l := b) h.g hgeo (by omega) hl hr (by omega) (by omega)
  unfold LA.free at hr
  have hM1 : M1 = (L.app M (needN b.length) b).M := by
    unfold LA.append LA.free at e1
    rw [if_neg (by omega), if_neg (by omega)] at e1
    exact ((AppR.mk.injEq ..).mp e1).2.2.2.symm
  obtain ⟨d1, d2, d3⟩ := app_safe hgeo (needN b.length) b L.next M h.C.D
  have d0 : (({ L with next := L.next } : LA).app M (needN b.length) b).M = M1 := hM1.symm
  rw [d0] at d1 d2 d3
  have hY := (append_ok' L M hb).1.y h.C.Y
  rw [e1] at hY
  have hsd : ∀ m, L.rd (sdk M1) m = L.rd (sdk M) m := fun m => by
    obtain ⟨p0, p1, _⟩ := hgeo.pl m
    exact rd_cong (sdk_see h.C.D d1 d2 d3 p0 p1)
  have hsdR : L.rd (sdk M1) = L.rd (sdk M) := funext hsd
  have hold : ∀ m, L.start ≤ m → m < L.next → L.rd M1 m = L.rd M m := fun m x y => by
    obtain ⟨p0, p1, _⟩ := hgeo.pl m
    exact rd_cong (hA.o _ p0 p1 (fun n n0 n1 => pl_ne h.C.r0 (by omega) (by omega) (by omega)))
  obtain ⟨wl, wp⟩ := wrs_at (R := L.rd M1) (needN b.length) b L (by omega) (by omega) h.C.l0 (by omega) hA.s
  have hwf := h.wf
  have hwait : M1.wait = M.wait ++ L.wrs (needN b.length) b := hA.w
  refine ⟨M1, e1, ⟨{ f0 := h.C.f0, r0 := h.C.r0, fn := h.C.fn, n6 := h.C.n6, q0 := h.C.q0, q1 := by show L.seq ≤ _; omega, l0 := h.C.l0, l1 := by show L.life ≤ _; omega, s0 := h.C.s0, o0 := h.C.o0, o1 := h.C.o1, sf := h.C.sf, fx := by show L.forced ≤ L.next + _; omega, nr := by show L.next + _ ≤ L.start + L.ring; omega, x1 := by show L.next + _ ≤ _; omega, D := d1, Y := hY, eS := by show Ents (L.rd (sdk M1)) _ _ _ _; rw [hsdR]; exact h.C.eS, eW := ?_, wl := ?_, ll := h.C.ll, low := by show ∀ m, _ → (L.rd (sdk M1) m).ok = true → (L.rd (sdk M1) m).life < _; rw [hsdR]; exact h.C.low, no := by show NoE (L.rd (sdk M1)) _ _; rw [hsdR]; exact h.C.no, ma := ?_, wn := ?_, wa := ?_ }, hA.g, ?_⟩, hwait⟩
  · show Ents (L.rd M1) L.forced _ (ws ++ [(L.life, b)]) (L.next + needN b.length)
    refine Ents.snoc hb hA.s ws _ _ (Ents.frame ws _ _ (fun m x y => hold m (by omega) y) h.C.eW) ?_
    have := h.last
    rw [lastL_append] at this
    exact this
  · intro x hx
    rcases List.mem_append.1 hx with hx | hx
    · exact h.C.wl x hx
    · rw [List.mem_singleton.1 hx]
  · have := h.C.ma.frame (M' := sdk M1) (fun n n0 n1 => sdk_see h.C.D d1 d2 d3 (by have := h.C.f0; omega) (by have := h.C.fn; have := h.C.r0; omega))
    exact ⟨this.a, this.e, this.o, this.q⟩
  · rw [hwait, List.length_append, wl]
    show _ ≤ L.next + _ - L.forced
    omega
  · intro k hk
    rw [hwait, List.length_append, wl] at hk
    show (wk M1 k).1 = L.pl (L.forced + k) ∧ prt (wholeF (wk M1 k).2) (L.forced + k) = L.rd M1 (L.forced + k)
    by_cases hk1 : k < M.wait.length
    · have e : wk M1 k = wk M k := by
        unfold wk
        rw [hwait, List.getD_eq_getElem?_getD, List.getD_eq_getElem?_getD, List.getElem?_append_left hk1]
      rw [e, hold _ (by omega) (by omega)]
      exact h.C.wa k hk1
    · have e : wk M1 k = (L.wrs (needN b.length) b).getD (k - M.wait.length) (0, []) := by
        unfold wk
        rw [hwait, List.getD_eq_getElem?_getD, List.getD_eq_getElem?_getD, List.getElem?_append_right (by omega)]
      have := wp (k - M.wait.length) (by omega)
      rw [e]
      have e2 : L.next + ((k - M.wait.length : Nat) : Int) = L.forced + k := by omega
      rw [e2] at this
      exact this
  · rw [hwait, List.length_append, wl]
    show _ = L.next + _ - L.forced
    omega
theorem LI.force (h : LI N c L M es ws) (hc : c ≤ 1000000) : (L.force M).e = 0 ∧ (L.force M).L = { L with forced := L.next } ∧ LI N c { L with forced := L.next } (L.force M).M (es ++ ws) [] ∧ (L.force M).M.wait = [] := by
  obtain ⟨e1, e2, e3, e4⟩ := force_good (L := L) h.g
  have hY := force_DY (L := L) h.C.Y
  have hfx := h.C.fx
  refine ⟨e1, e2, ?_⟩
  unfold LA.force at hY e3 ⊢
  by_cases hf : L.forced = L.next
  · have hw : ws = [] := by
      have := h.C.eW
      rw [← hf] at this
      exact ents_nil this
    subst hw
    rw [if_pos hf, List.append_nil]
    have e : ({ L with forced := L.next } : LA) = L := congrArg (fun x => ({ L with forced := x } : LA)) hf.symm
    rw [e]
    have hwf := h.wf
    exact ⟨h, List.length_eq_zero_iff.1 (show M.wait.length = 0 by omega)⟩
  · rw [if_neg hf] at hY e3 ⊢
    rw [if_pos h.g.sy_eq.2.2.2.2.2] at hY e3 ⊢
    obtain ⟨a, b, cc, d, e⟩ := h.C.D.sy_good h.g.d (by rw [h.g.f]; decide)
    have hsee : ∀ j : Int, 0 ≤ j → j < N → M.sy.rdE j = M.rdE j ∧ M.sy.rdB j = M.rdB j := fun j x y => h.g.sy_rd x y
    have hrd : L.rd M.sy = L.rd M := funext fun m => by
      obtain ⟨p0, p1, _⟩ := (h.C.geo hc).pl m
      exact rd_cong (hsee _ p0 p1)
    refine ⟨LI.flat e3 a hY b (fun j x y => ?_) h.C.f0 h.C.r0 h.C.fn h.C.n6 h.C.q0 h.C.q1 h.C.l0 h.C.l1 h.C.s0 h.C.o0 h.C.o1 rfl h.C.nr h.C.x1 hc ?_ h.last ?_ ?_ ?_, b⟩
    · rw [e j x y]
      unfold ns
      rw [cc, d]
    · show Ents (L.rd M.sy) _ _ _ _
      rw [hrd]; exact h.ents hc
    · show ∀ m, _ → (L.rd M.sy m).ok = true → (L.rd M.sy m).life < _
      rw [hrd]; exact h.lowN hc
    · show NoE (L.rd M.sy) _ _
      rw [hrd]; exact h.noN hc
    · have := (h.mN hc).frame (M' := M.sy) (fun n n0 n1 => hsee _ (by have := h.C.f0; omega) (by have := h.C.fn; have := h.C.r0; omega))
      exact ⟨this.a, this.e, this.o, this.q⟩
theorem mk_flat (hM : Gd M N) (hD : Dn M N) (hb : Bd L) (f0 : 0 ≤ L.fr) (f1 : L.fr + 2 ≤ N) (f2 : L.fr ≤ 65536) : Dn (L.mkM M) N ∧ ∀ j : Int, 0 ≤ j → j < N → ss (L.mkM M) j = ns (L.mkM M) j := by
  have hN : L.up.Nm := ⟨⟨f0, f2⟩, ⟨show 0 ≤ L.seq + 1 by have := hb.q0; omega, show L.seq + 1 < 18446744073709551616 by have := hb.q1; omega⟩, ⟨hb.l0, show L.life < 18446744073709551616 by have := hb.l1; omega⟩, ⟨hb.s0, show L.start < 18446744073709551616 by have := hb.s1; omega⟩, ⟨hb.o0, show L.floor < 18446744073709551616 by have := hb.o1; omega⟩⟩
  have hI : L.mkI = L.fr + (L.seq + 1) % 2 := rfl
  have i0 : 0 ≤ L.mkI := by rw [hI]; omega
  have i1 : L.mkI < N := by rw [hI]; omega
  have hl := mb_len hN
  rw [(hM.mark hN i0 i1).2.1]
  have hgw := hM.wr i0 i1 (l := L.up.mb) (by omega)
  obtain ⟨a, b, cc, d, e⟩ := (hD.wr i0 i1 L.up.mb).sy_good hgw.d (by rw [hgw.f]; decide)
  refine ⟨a, fun j x y => ?_⟩
  rw [e j x y]
  unfold ns
  rw [cc, d]
/-- A log is opened: what stood on a disk that works. -/
theorem open_LI (hg : Gd M N) (hD : Dn M N) (hY : DY M) (h6 : N ≤ 65536) (hm : Mas L M) (f0 : 0 ≤ L.fr) (r0 : 0 < L.ring) (fn : L.fr + 2 + L.ring ≤ N) (q0 : 0 ≤ L.seq) (q1 : L.seq ≤ c) (l0 : 0 ≤ L.life) (l1 : L.life ≤ c) (s0 : 0 ≤ L.start) (o0 : 0 ≤ L.floor) (o1 : L.floor ≤ L.life) (hc : c ≤ 999999)
    {z : Int} (he : Ents (L.rd M) L.start L.floor es z) (hz : z ≤ L.start + L.ring) (hx : z ≤ 40 * c) (ll : lastL L.floor es ≤ L.life) (no : NoE (L.rd M) z (lastL L.floor es)) (low : ∀ m, z ≤ m → (L.rd M m).ok = true → (L.rd M m).life ≤ L.life) :
    ∃ L' M', opn M L.fr (L.ring + 2) = ⟨some L', 0, M'⟩ ∧ LI N (c + 1) L' M' es [] ∧ L'.life = L.life + 1 ∧ L'.start = L.start ∧ L'.next = z ∧ L'.fr = L.fr ∧ L'.ring = L.ring ∧ M'.wait = [] := by
  have hz0 := Ents.le _ _ _ he
  have hlf := lastL_le _ _ _ he
  have hbd : Bd L := ⟨q0, by omega, l0, by omega, s0, by omega, o0, by omega⟩
  have hmx : mxI L.life (lastL L.floor es) = L.life := by unfold mxI; split <;> omega
  have hno0 := (show NoE (L.op.rd M) z (lastL L.floor es) from no) (L.ring - (z - L.start)).toNat
  rw [← ent_R L.op] at hno0
  obtain ⟨k2, k0, k1⟩ := msK_mas hm
  have hlen := he.len
  have hsc : L.op.scan M (L.ring + 1).toNat L.op.start L.op.floor = ⟨z, lastL L.floor es, 0⟩ := scan_ents (L := L.op) hz es _ _ _ he (by omega) hno0
  obtain ⟨L1, hL1, a1, a2, a3, a4, a5, a6, a7, a8⟩ : ∃ L1 : LA, L1 = L.re z L.life ∧ L1.fr = L.fr ∧ L1.ring = L.ring ∧ L1.seq = L.seq ∧ L1.life = L.life + 1 ∧ L1.start = L.start ∧ L1.floor = (if z = L.start then L.life + 1 else L.floor) ∧ L1.next = z ∧ L1.forced = z := ⟨_, rfl, rfl, rfl, rfl, rfl, rfl, rfl, rfl, rfl⟩
  have hfl : 0 ≤ L1.floor ∧ L1.floor ≤ L.life + 1 := by rw [a6]; split <;> omega
  have hb1 : Bd L1 := ⟨by omega, by omega, by omega, by omega, by omega, by omega, by omega, by omega⟩
  have hold : Old L1 M := by
    have e : L1.ms M (L1.seq % 2) = L.ms M (L.seq % 2) := by rw [a3]; unfold LA.ms; rw [a1]
    exact ⟨by rw [e, hm.a], fun _ => by rw [e, hm.a, a3]; exact Int.le_refl _⟩
  obtain ⟨m1, m2, m3, m4, m5⟩ := mark_good (L := L1) hg hb1 hold (by omega) (by omega) (by omega)
  obtain ⟨n1, n2⟩ := mk_flat (L := L1) hg hD hb1 (by omega) (by omega) (by omega)
  have hY1 : DY (L1.mkM M) := mkM_DY hY
  have hpl : ∀ m, L1.up.rd (L1.mkM M) m = L.rd M m := fun m => by
    obtain ⟨p0, p1, p2⟩ := (show Geo L N from ⟨f0, r0, fn, l0, by omega⟩).pl m
    have e : L1.up.pl m = L.pl m := by unfold LA.pl; show L1.fr + 2 + m % L1.ring = _; rw [a1, a2]
    obtain ⟨x, y⟩ := m5 (L.pl m) (by omega) p1
    unfold LA.rd
    rw [e, x, y]
  have hrd : L1.up.rd (L1.mkM M) = L.rd M := funext hpl
  have hlast : lastL L1.up.floor es ≤ L1.up.life ∧ Ents (L.rd M) L.start L1.up.floor es z ∧ NoE (L.rd M) z (lastL L1.up.floor es) := by
    by_cases hzs : z = L.start
    · have hes : es = [] := by rw [hzs] at he; exact ents_nil he
      subst hes
      have hf : L1.up.floor = L.life + 1 := by show L1.floor = _; rw [a6, if_pos hzs]
      have hlf2 : L1.up.life = L.life + 1 := a4
      refine ⟨by show L1.up.floor ≤ _; omega, he, ?_⟩
      show NoE _ _ L1.up.floor
      rw [hf]
      exact NoE.bad (rdE_zero hg ⟨f0, r0, fn, l0, by omega⟩ z) (fun ho => by have := low z (Int.le_refl _) ho; omega)
    · have hf : L1.up.floor = L.floor := by show L1.floor = _; rw [a6, if_neg hzs]
      have hlf2 : L1.up.life = L.life + 1 := a4
      rw [hf]
      exact ⟨by omega, he, no⟩
  refine ⟨L1.up, L1.mkM M, ?_, LI.flat m2 n1 hY1 m4 n2 (by show 0 ≤ L1.fr; omega) (by show 0 < L1.ring; omega) (by show L1.fr + 2 + L1.ring ≤ _; omega) h6 (by show 0 ≤ L1.seq + 1; omega) (by show L1.seq + 1 ≤ _; omega) (by show 0 ≤ L1.life; omega) (by show L1.life ≤ _; omega) (by show 0 ≤ L1.start; omega) hfl.1 (by show L1.floor ≤ L1.life; omega) (by show L1.forced = L1.next; omega) (by show L1.next ≤ L1.start + L1.ring; omega) (by show L1.next ≤ _; omega) (by omega) ?_ hlast.1 ?_ ?_ m3, a4, a5, a7, a1, a2, m4⟩
  · unfold opn
    rw [if_neg (by rw [hg.n]; omega), show L.ring + 2 - 2 = L.ring by omega]
    unfold LA.opn1
    rw [if_neg (by rw [k0]; decide), if_neg (by rw [k1]; decide), k2]
    show L.op.opn2 M (L.op.scan M (L.ring + 1).toNat L.op.start L.op.floor) = _
    rw [hsc]
    unfold LA.opn2
    rw [if_neg (fun c => c rfl)]
    show (if (1099511627776 : Int) ≤ mxI L.life (lastL L.floor es) then _ else _) = _
    rw [if_neg (by rw [hmx]; omega)]
    show (⟨some (L.re z (mxI L.life (lastL L.floor es))).up, (L.re z (mxI L.life (lastL L.floor es))).mkE M, (L.re z (mxI L.life (lastL L.floor es))).mkM M⟩ : OpR) = _
    rw [hmx, ← hL1, m1]
  · rw [hrd]
    show Ents (L.rd M) L1.start _ _ L1.next
    rw [a5, a7]
    exact hlast.2.1
  · rw [hrd]
    intro m hm2 ho
    have hm3 : L1.next ≤ m := hm2
    have := low m (by omega) ho
    show _ < L1.life
    omega
  · rw [hrd]
    show NoE (L.rd M) L1.next _
    rw [a7]
    exact hlast.2.2
/-- A log is opened while it stands. -/
theorem LI.reopen (h : LI N c L M es ws) (hc : c ≤ 999999) : ∃ L' M', opn M L.fr (L.ring + 2) = ⟨some L', 0, M'⟩ ∧ LI N (c + 1) L' M' (es ++ ws) [] ∧ L'.life = L.life + 1 ∧ L'.start = L.start ∧ L'.next = L.next ∧ L'.fr = L.fr ∧ L'.ring = L.ring ∧ M'.wait = [] :=
  open_LI h.g h.C.D h.C.Y h.C.n6 (h.mN (by omega)) h.C.f0 h.C.r0 h.C.fn h.C.q0 h.C.q1 h.C.l0 h.C.l1 h.C.s0 h.C.o0 h.C.o1 hc (h.ents (by omega)) h.C.nr h.C.x1 h.last (h.noN (by omega)) (fun m a b => Int.le_of_lt (h.lowN (by omega) m a b))
/-- The power goes and comes, and the log is opened. -/
theorem CI.crash {Rs : Int → Part} {nx : Int} (h : CI N c L M es ws Rs nx) (hc : c ≤ 999999) (keep : List Bool) (tear : Int) : ∃ t1 t2 z L' M', Left (L.rd (M.on keep tear)) L.start L.floor L.forced nx L.life es ws (fun m => m - L.forced < M.wait.length ∧ keep.getD (m - L.forced).toNat false = true) t1 t2 z ∧
    opn (M.on keep tear) L.fr (L.ring + 2) = ⟨some L', 0, M'⟩ ∧ LI N (c + 1) L' M' (es ++ t1) [] ∧ L'.life = L.life + 1 ∧ L'.start = L.start ∧ L'.next = z ∧ L'.fr = L.fr ∧ L'.ring = L.ring ∧ M'.wait = [] := by
  have hgeo := h.geo (by omega)
  have hwn := h.wn
  have hnr := h.nr
  have hsf := h.sf
  have hfx := h.fx
  have hx1 := h.x1
  have hdis : ∀ i k, i < k → k < M.wait.length → (wk M i).1 ≠ (wk M k).1 := fun i k hik hk => by
    rw [(h.wa i (by omega)).1, (h.wa k hk).1]
    exact pl_ne h.r0 (by omega) (by omega) (by omega)
  obtain ⟨hg, hD, ho, hy, hn⟩ := on_gd h.D keep tear hdis
  have he' : ∀ m, (L.rd (M.on keep tear) m).e = 0 := fun m => rdE_zero hg hgeo m
  have hlife := ents_life _ _ _ h.eW h.wl
  have hkept : ∀ m, L.forced ≤ m → m < nx → (m - L.forced < M.wait.length ∧ keep.getD (m - L.forced).toNat false = true) → L.rd (M.on keep tear) m = Rs m := fun m m0 m1 ⟨a, b⟩ => by
    obtain ⟨k, rfl⟩ : ∃ k : Nat, m = L.forced + k := ⟨(m - L.forced).toNat, by omega⟩
    rw [show (L.forced + (k : Int) - L.forced).toNat = k by omega] at b
    obtain ⟨w1, w2⟩ := h.wa k (by omega)
    obtain ⟨y1, y2⟩ := hy k (by omega) b
    rw [w1] at y1 y2
    unfold LA.rd
    rw [if_pos y1, y2, w2]
  have hback : ∀ m, (L.rd (M.on keep tear) m = L.rd (sdk M) m ∨ (L.rd (M.on keep tear) m).ok = false) ∨ ∃ k : Nat, k < M.wait.length ∧ L.pl m = L.pl (L.forced + k) ∧ keep.getD k false = true := fun m => by
    obtain ⟨p0, p1, _⟩ := hgeo.pl m
    by_cases hx : ∃ k, k < M.wait.length ∧ (wk M k).1 = L.pl m
    · obtain ⟨k, hk, e⟩ := hx
      by_cases hkp : keep.getD k false = true
      · right
        exact ⟨k, hk, by rw [← e, (h.wa k hk).1], hkp⟩
      · left
        have := hn k hk (by cases hq : keep.getD k false <;> simp_all)
        rw [e] at this
        rcases this with c | c
        · exact .inl (rd_cong c)
        · right
          unfold LA.rd
          rw [if_neg (by rw [c]; decide), if_pos c]
    · left
      left
      exact rd_cong (ho _ p0 p1 (fun i hi q => hx ⟨i, hi, q⟩))
  have h1 : ∀ m, L.start ≤ m → m < L.forced → L.rd (M.on keep tear) m = L.rd (sdk M) m := fun m m0 m1 => by
    obtain ⟨p0, p1, _⟩ := hgeo.pl m
    refine rd_cong (ho _ p0 p1 (fun k hk => ?_))
    rw [(h.wa k hk).1]
    exact pl_ne h.r0 (by omega) (by omega) (by omega)
  have h3 : ∀ m, L.forced ≤ m → (m < nx → ¬ (m - L.forced < M.wait.length ∧ keep.getD (m - L.forced).toNat false = true)) → L.rd (M.on keep tear) m = L.rd (sdk M) m ∨ (L.rd (M.on keep tear) m).ok = false := fun m m0 hk => by
    rcases hback m with c | ⟨k, k0, k1, k2⟩
    · exact c
    · right
      have hne : m ≠ L.forced + k := fun e => hk (by omega) ⟨by omega, by rw [show (m - L.forced).toNat = k by omega]; exact k2⟩
      have hr := hkept (L.forced + k) (by omega) (by omega) ⟨by omega, by rw [show (L.forced + (k : Int) - L.forced).toNat = k by omega]; exact k2⟩
      exact (rd_apart (n := L.forced + k) (by rw [hr]; exact (hlife _ (by omega) (by omega)).2) k1 hne).1
  obtain ⟨t1, t2, z, hL⟩ := crash_parts (kept := fun m => m - L.forced < M.wait.length ∧ keep.getD (m - L.forced).toNat false = true) h.eS h.eW h.wl h.low h.no he' h1 hkept h3 hlife
  have hll : lastL L.floor (es ++ t1) ≤ L.life := by
    rw [lastL_append]
    by_cases ht : t1 = []
    · rw [ht]; exact h.ll
    · rw [lastL_all t1 _ (fun x hx => h.wl x (by rw [hL.w]; exact List.mem_append_left _ hx)) ht]; exact Int.le_refl _
  have hma : Mas L (M.on keep tear) := h.ma.frame (fun n n0 n1 => ho _ (by have := h.f0; omega) (by have := h.fn; have := h.r0; omega) (fun k hk q => by
    rw [(h.wa k hk).1] at q
    have := (hgeo.pl (L.forced + k)).2.2
    omega))
  have hz1 := hL.z1
  obtain ⟨L', M', a⟩ := open_LI hg hD (on_DY keep tear h.Y) h.n6 hma h.f0 h.r0 h.fn h.q0 h.q1 h.l0 h.l1 h.s0 h.o0 h.o1 hc hL.s (by omega) (by omega) hll hL.no hL.low
  exact ⟨t1, t2, z, L', M', hL, a⟩
/-- A log on a new disk. -/
theorem new_LI (N : Nat) (n : Int) (hN : N ≤ 65536) (h1 : 2 < n) (h2 : n ≤ N) : ∃ L' M', opn (DA.new (newN N).toNat) 0 n = ⟨some L', 0, M'⟩ ∧ LI N 1 L' M' [] [] ∧ L'.life = 1 ∧ L'.start = 0 ∧ L'.next = 0 ∧ L'.fr = 0 ∧ L'.ring = n - 2 ∧ M'.wait = [] := by
  obtain ⟨hg, hz⟩ := new_gd (N : Int) (by omega) (by omega)
  rw [Int.toNat_natCast] at hg
  have eN : (newN (N : Int)).toNat = N := by unfold newN; repeat' split <;> omega
  have hD : Dn (DA.new (newN (N : Int)).toNat) N := by rw [eN]; exact Dn.new N
  have hY : DY (DA.new (newN (N : Int)).toNat) := new_DY _
  have hO := opn_fresh hg (by omega) (fr := 0) (n := n) (by omega) (by omega) (by omega) (fun j a b => hz j a (by omega))
  generalize DA.new (newN (N : Int)).toNat = M at hg hz hD hY hO ⊢
  have hm : ∀ k : Int, 0 ≤ k → k < 2 → ∀ L : LA, L.fr = 0 → L.ms M k = mst zeros k := fun k a b L hL => by
    obtain ⟨q1, q2⟩ := hz (0 + k) (by omega) (by omega)
    unfold LA.ms; rw [hL, if_pos q1, q2]
  obtain ⟨L0, hL0, a1, a2, a3, a4, a5, a6, a7, a8⟩ : ∃ L0 : LA, L0 = ⟨0, n - 2, 0, 1, 0, 1, 0, 0⟩ ∧ L0.fr = 0 ∧ L0.ring = n - 2 ∧ L0.seq = 0 ∧ L0.life = 1 ∧ L0.start = 0 ∧ L0.floor = 1 ∧ L0.next = 0 ∧ L0.forced = 0 :=
    ⟨_, rfl, rfl, rfl, rfl, rfl, rfl, rfl, rfl, rfl⟩
  have eU : (⟨0, n - 2, 1, 1, 0, 1, 0, 0⟩ : LA) = L0.up := by rw [hL0]; rfl
  clear hL0
  have b0 : Bd L0 := by constructor <;> omega
  have hms : L0.ms M (L0.seq % 2) = mst zeros (L0.seq % 2) := hm _ (by omega) (by omega) _ a1
  obtain ⟨m1, m2, m3, m4, m5⟩ := mark_good hg b0 (⟨by rw [hms]; rfl, fun c => by rw [hms, ms_zeros] at c; cases c⟩ : Old L0 M) (by omega) (by omega) (by omega)
  obtain ⟨n1, n2⟩ := mk_flat (L := L0) hg hD b0 (by omega) (by omega) (by omega)
  have hNm : L0.up.Nm := ⟨⟨show 0 ≤ L0.fr by omega, show L0.fr ≤ 65536 by omega⟩, ⟨show 0 ≤ L0.seq + 1 by omega, show L0.seq + 1 < 18446744073709551616 by omega⟩, ⟨show 0 ≤ L0.life by omega, show L0.life < 18446744073709551616 by omega⟩, ⟨show 0 ≤ L0.start by omega, show L0.start < 18446744073709551616 by omega⟩, ⟨show 0 ≤ L0.floor by omega, show L0.floor < 18446744073709551616 by omega⟩⟩
  have hI : L0.mkI = 0 + 1 := by show L0.fr + (L0.seq + 1) % 2 = _; omega
  have e : (M.wr (0 + 1) (⟨0, n - 2, 1, 1, 0, 1, 0, 0⟩ : LA).mb).sy = L0.mkM M := by
    rw [(hg.mark hNm (by omega) (by omega)).2.1, hI, eU]
  rw [hO, e, eU]
  have hY1 : DY (L0.mkM M) := mkM_DY hY
  have hrd : ∀ m, (L0.up.rd (L0.mkM M) m).ok = false ∧ (L0.up.rd (L0.mkM M) m).e = 0 ∨ m < 0 := fun m => by
    by_cases hm0 : m < 0
    · exact .inr hm0
    · left
      obtain ⟨p0, p1, p2⟩ := (show Geo L0 N from ⟨by omega, by omega, by omega, by omega, by omega⟩).pl m
      obtain ⟨q1, q2⟩ := m5 (L0.pl m) p2 p1
      obtain ⟨q3, q4⟩ := hz (L0.pl m) p0 (by omega)
      show (L0.rd (L0.mkM M) m).ok = false ∧ (L0.rd (L0.mkM M) m).e = 0
      unfold LA.rd
      rw [if_pos (q1.trans q3), q2, q4]
      exact prt_zeros m (by omega)
  refine ⟨L0.up, L0.mkM M, rfl, LI.flat m2 n1 hY1 m4 n2 (by show 0 ≤ L0.fr; omega) (by show 0 < L0.ring; omega) (by show L0.fr + 2 + L0.ring ≤ _; omega) hN (by show 0 ≤ L0.seq + 1; omega) (by show L0.seq + 1 ≤ _; omega) (by show 0 ≤ L0.life; omega) (by show L0.life ≤ _; omega) (by show 0 ≤ L0.start; omega) (by show 0 ≤ L0.floor; omega) (by show L0.floor ≤ L0.life; omega) (by show L0.forced = L0.next; omega) (by show L0.next ≤ L0.start + L0.ring; omega) (by show L0.next ≤ _; omega) (by omega) ?_ ?_ ?_ ?_ m3, a4, a5, a7, a1, a2, m4⟩
  · show L0.start = L0.next
    omega
  · show L0.floor ≤ L0.life
    omega
  · intro m hm2 ho
    have hm3 : L0.next ≤ m := hm2
    rcases hrd m with c | c
    · rw [c.1] at ho; cases ho
    · omega
  · rcases hrd L0.up.next with c | c
    · exact NoE.bad c.2 (fun ho => by rw [c.1] at ho; cases ho)
    · have c2 : L0.next < 0 := c
      omega
end
end Go.Proofs.Ytihmfccpgahmaaa.Wal

namespace Go.Proofs.Ytihmfccpgahmaaa.Wal
open Go Go.RowKit
open Go.Proofs.YtihmfccpgahmaaaW.PrintWords hiding Kept Kept.refl
open Go.Proofs.YtihmfccpgahmaaaW.PrintMore Go.Proofs.YtihmfccpgahmaaaW.PrintLast Go.Proofs.Ytihmfccpgahmaaa.Dk Go.Proofs.Ytihmfccpgahmaaa.Q Go.Proofs.Ytihmfccpgahmaaa.Str Go.Proofs.Ytihmfccpgahmaaa.Leb
set_option linter.unusedVariables false
set_option linter.unusedSimpArgs false
section
variable {M : DA} {N c : Nat} {L : LA} {es ws a b : List (Int × List Int)} {lsn fl : Int}
/-- The mark that a Cut makes. -/
theorem mark_LI (h : LI N c L M es []) (hc : c ≤ 999999) (h0 : L.start ≤ lsn) (he : Ents (L.rd M) lsn fl b L.next) (f0 : 0 ≤ fl) (f1 : fl ≤ L.life) (ll : lastL fl b ≤ L.life) (no : NoE (L.rd M) L.next (lastL fl b)) :
    ((L.at_ lsn).fl fl).mkE M = 0 ∧ LI N (c + 1) ((L.at_ lsn).fl fl).up (((L.at_ lsn).fl fl).mkM M) b [] ∧ (((L.at_ lsn).fl fl).mkM M).wait = [] := by
  have hc6 : c ≤ 1000000 := by omega
  have hq1 := h.C.q1
  have hq0 := h.C.q0
  have hl0 := h.C.l0
  have hl1 := h.C.l1
  have hx1 := h.C.x1
  have hs0 := h.C.s0
  have hf0 := h.C.f0
  have hr0 := h.C.r0
  have hfn := h.C.fn
  have hn6 := h.C.n6
  have hnr := h.C.nr
  have hz := Ents.le _ _ _ he
  have hfw : L.forced = L.next := h.C.eW
  obtain ⟨L1, hL1, a1, a2, a3, a4, a5, a6, a7, a8⟩ : ∃ L1 : LA, L1 = (L.at_ lsn).fl fl ∧ L1.fr = L.fr ∧ L1.ring = L.ring ∧ L1.seq = L.seq ∧ L1.life = L.life ∧ L1.start = lsn ∧ L1.floor = fl ∧ L1.next = L.next ∧ L1.forced = L.forced := ⟨_, rfl, rfl, rfl, rfl, rfl, rfl, rfl, rfl, rfl⟩
  rw [← hL1]
  have hb1 : Bd L1 := ⟨by omega, by omega, by omega, by omega, by omega, by omega, by omega, by omega⟩
  have hm := h.mN hc6
  have hold : Old L1 M := by
    have e : L1.ms M (L1.seq % 2) = L.ms M (L.seq % 2) := by rw [a3]; unfold LA.ms; rw [a1]
    exact ⟨by rw [e, hm.a], fun _ => by rw [e, hm.a, a3]; exact Int.le_refl _⟩
  obtain ⟨m1, m2, m3, m4, m5⟩ := mark_good (L := L1) h.g hb1 hold (by omega) (by omega) (by omega)
  obtain ⟨n1, n2⟩ := mk_flat (L := L1) h.g h.C.D hb1 (by omega) (by omega) (by omega)
  have hrd : L1.up.rd (L1.mkM M) = L.rd M := funext fun m => by
    obtain ⟨p0, p1, p2⟩ := (h.C.geo hc6).pl m
    have e : L1.up.pl m = L.pl m := by unfold LA.pl; show L1.fr + 2 + m % L1.ring = _; rw [a1, a2]
    obtain ⟨x, y⟩ := m5 (L.pl m) (by omega) p1
    unfold LA.rd
    rw [e, x, y]
  refine ⟨m1, LI.flat m2 n1 (mkM_DY h.C.Y) m4 n2 (by show 0 ≤ L1.fr; omega) (by show 0 < L1.ring; omega) (by show L1.fr + 2 + L1.ring ≤ _; omega) hn6 (by show 0 ≤ L1.seq + 1; omega) (by show L1.seq + 1 ≤ _; omega) (by show 0 ≤ L1.life; omega) (by show L1.life ≤ _; omega) (by show 0 ≤ L1.start; omega) (by show 0 ≤ L1.floor; omega) (by show L1.floor ≤ L1.life; omega) (by show L1.forced = L1.next; omega) (by show L1.next ≤ L1.start + L1.ring; omega) (by show L1.next ≤ _; omega) (by omega) ?_ ?_ ?_ ?_ m3, m4⟩
  · rw [hrd]
    show Ents (L.rd M) L1.start L1.floor _ L1.next
    rw [a5, a6, a7]; exact he
  · show lastL L1.floor b ≤ L1.life
    rw [a6, a4]; exact ll
  · rw [hrd]
    intro m m0 ho
    have m1 : L1.next ≤ m := m0
    have := h.lowN hc6 m (by omega) ho
    show _ < L1.life
    omega
  · rw [hrd]
    show NoE (L.rd M) L1.next (lastL L1.floor b)
    rw [a6, a7]; exact no
theorem LI.cut (h : LI N c L M es ws) (hc : c ≤ 999999) (hab : es ++ ws = a ++ b) (ha : Ents (L.rd M) L.start L.floor a lsn) (hb : Ents (L.rd M) lsn (lastL L.floor a) b L.next) :
    ∃ L' M', L.cut M lsn = ⟨0, L', M'⟩ ∧ LI N (c + 1) L' M' b [] ∧ L'.start = lsn ∧ L'.next = L.next ∧ L'.life = L.life ∧ L'.fr = L.fr ∧ L'.ring = L.ring ∧ M'.wait = [] := by
  have hc6 : c ≤ 1000000 := by omega
  have h0 := Ents.le _ _ _ ha
  have h1 := Ents.le _ _ _ hb
  obtain ⟨f1, f2, f3, f4⟩ := h.force hc6
  obtain ⟨g1, g2, g3, g4⟩ := force_good (L := L) h.g
  have hrd : L.rd (L.force M).M = L.rd M := funext fun m => by
    obtain ⟨p0, p1, _⟩ := (h.C.geo hc6).pl m
    exact rd_cong (g4 _ p0 p1)
  have hlast := h.last
  have hno := h.noN hc6
  rw [hab, lastL_append] at hlast hno
  unfold LA.cut
  rw [if_neg (by omega), if_neg (fun q => q f1), f2]
  generalize (L.force M).M = M1 at f3 f4 hrd ⊢
  rw [← hrd] at hno
  unfold LA.cut2
  by_cases hs : L.start = lsn
  · rw [if_pos (show ({ L with forced := L.next } : LA).start = lsn from hs)]
    have ha0 : a = [] := by rw [← hs] at ha; exact ents_nil ha
    subst ha0
    rw [hab] at f3
    refine ⟨_, M1, rfl, ?_, rfl, rfl, rfl, rfl, rfl, f4⟩
    have e : (({ L with forced := L.next } : LA).at_ lsn) = ({ L with forced := L.next } : LA) := by
      unfold LA.at_
      exact congrArg (fun x => ({ L with forced := L.next, start := x } : LA)) hs.symm
    rw [e]
    exact f3.mono (Nat.le_succ c)
  · rw [if_neg (show ¬ ({ L with forced := L.next } : LA).start = lsn from hs)]
    by_cases hn : lsn < L.next
    · rw [if_pos (show lsn < ({ L with forced := L.next } : LA).next from hn)]
      cases b with
      | nil =>
        have : lsn = L.next := hb
        omega
      | cons x t =>
        obtain ⟨b1, b2, b3, b4⟩ := hb
        have hx := needN_pos x.2.length
        have hl := lies_life _ _ _ b3 lsn (Int.le_refl _) (by omega)
        have hll := lastL_le _ _ _ b4
        have hge := lastL_le _ _ _ ha
        have ho0 := h.C.o0
        have hlx : lastL (lastL L.floor a) (x :: t) = lastL x.1 t := rfl
        rw [hlx] at hlast hno
        have hrd1 : ((({ L with forced := L.next } : LA).at_ lsn).fl L.life).rd M1 lsn = L.rd M lsn := (show _ = L.rd M1 lsn from rfl).trans (by rw [hrd])
        rw [show ({ L with forced := L.next } : LA).life = L.life from rfl, hrd1, hl.1, hl.2, rdE_zero h.g (h.C.geo hc6), if_neg (by rintro (q | q); exact q rfl; cases q)]
        obtain ⟨k1, k2, k3⟩ := mark_LI (L := { L with forced := L.next }) (M := M1) (fl := x.1) (b := x :: t) (lsn := lsn) f3 hc h0 (by show Ents (L.rd M1) _ _ _ _; rw [hrd]; exact ⟨b1, Int.le_refl _, b3, b4⟩) (by omega) (by show x.1 ≤ L.life; omega) hlast hno
        refine ⟨_, _, ?_, k2, rfl, rfl, rfl, rfl, rfl, k3⟩
        show (⟨LA.mkE _ M1, _, _⟩ : CutR) = ⟨0, _, _⟩
        exact congrArg (fun e => (⟨e, _, _⟩ : CutR)) k1
    · rw [if_neg (show ¬ lsn < ({ L with forced := L.next } : LA).next from hn)]
      have e : lsn = L.next := by omega
      have hb0 : b = [] := by rw [e] at hb; exact ents_nil hb
      subst hb0
      have hl0 := h.C.l0
      obtain ⟨k1, k2, k3⟩ := mark_LI (L := { L with forced := L.next }) (M := M1) (fl := L.life) (b := []) (lsn := lsn) f3 hc h0 e hl0 (Int.le_refl _) (Int.le_refl _) (by
        show NoE (L.rd M1) L.next L.life
        rw [hrd]
        exact NoE.bad (rdE_zero h.g (h.C.geo hc6) _) (fun ho => h.lowN hc6 _ (Int.le_refl _) ho))
      refine ⟨_, _, ?_, k2, rfl, rfl, rfl, rfl, rfl, k3⟩
      show (⟨LA.mkE _ M1, _, _⟩ : CutR) = ⟨0, _, _⟩
      exact congrArg (fun e => (⟨e, _, _⟩ : CutR)) k1
end
end Go.Proofs.Ytihmfccpgahmaaa.Wal

namespace Go.Proofs.Ytihmfccpgahmaaa.Wal
open Go Go.RowKit
open Go.Proofs.YtihmfccpgahmaaaW.PrintWords hiding Kept Kept.refl
open Go.Proofs.YtihmfccpgahmaaaW.PrintMore Go.Proofs.YtihmfccpgahmaaaW.PrintLast Go.Proofs.Ytihmfccpgahmaaa.Dk Go.Proofs.Ytihmfccpgahmaaa.Q Go.Proofs.Ytihmfccpgahmaaa.Str Go.Proofs.Ytihmfccpgahmaaa.Leb
set_option linter.unusedVariables false
set_option linter.unusedSimpArgs false
theorem Ents.weak {R : Int → Part} {z a lf lf' : Int} : ∀ {es : List (Int × List Int)}, Ents R a lf es z → lf' ≤ lf → Ents R a lf' es z
  | [], h, _ => h
  | _ :: _, h, h2 => ⟨h.1, Int.le_trans h2 h.2.1, h.2.2⟩
theorem LI.alls {M : DA} {N c : Nat} {L : LA} {es ws : List (Int × List Int)} (h : LI N c L M es ws) (hc : c ≤ 1000000) : L.alls M L.start = numb L.start (es ++ ws) :=
  alls_ents h.C.nr ((h.ents hc).weak h.C.o0)
theorem kept_below {w0 w W : World} {T : Nat → Prop} (hk : Kept w W T) (hB : Below w0.heap.size w0 w) (hT : ∀ k, T k → w0.heap.size ≤ k) : Below w0.heap.size w0 W :=
  ⟨hk.os.trans hB.os, hk.tape.trans hB.tape, hk.output.trans hB.output, Nat.le_trans hB.size hk.size, fun k hk1 => (hk.block k (Nat.lt_of_lt_of_le hk1 hB.size) (fun h => by have := hT k h; omega)).trans (hB.block k hk1)⟩
structure Wl (w0 w : World) (p g : Nat) (S : Nat → Prop) (N c : Nat) (L : LA) (M : DA) (es ws : List (Int × List Int)) : Prop where
  G : Lg w0 w p g S L M
  I : LI N c L M es ws
section
variable {w0 w W : World} {p g : Nat} {S : Nat → Prop} {N c : Nat} {L L' : LA} {M M' : DA} {es ws a b : List (Int × List Int)}
theorem Wl.below (h : Wl w0 w p g S N c L M es ws) (hb : Below w.heap.size w W) : Wl w0 W p g S N c L M es ws := ⟨h.G.below hb, h.I⟩
theorem LI.wait (h : LI N c L M es ws) : M.wait.length ≤ 40 * c := by
  have := h.wf; have := h.C.x1; have := h.C.sf; have := h.C.s0
  omega
theorem Wl.args (h : Wl w0 w p g S N c L M es ws) (hk : Kept w W (fun k => S k ∨ k = p)) : Below w0.heap.size w0 W :=
  kept_below hk h.G.D.B (fun k hq => hq.elim (fun q => (h.G.D.lt k q).1) (fun q => by rw [q]; exact h.G.P))
theorem wl_append (h : Wl w0 w p g S N c L M es ws) (hc : c ≤ 10000) (A : Option Addr) (cc : Nat) (l : List Int) (hC : ∀ W', Kept w W' (fun k => S k ∨ k = p) → Kd.C (Kd.int .u8) W' A l.length l) (hcc : l.length ≤ cc) (hY : Byt l) (hl : l.length ≤ 16384) (hr : (needN l.length : Int) ≤ L.free) :
    Calls Try.prog 36 #[.pointer (some ⟨p, 0, none⟩), .slice A l.length cc] w fun e w' => e = .returned (.tuple #[.int .u64 L.next, .int .i64 0]) ∧
      ∃ S' L' M', Wl w0 w' p g S' N (c + 1) L' M' es (ws ++ [(L.life, l)]) ∧ (L'.next = L.next + needN l.length ∧ L'.life = L.life ∧ L'.start = L.start ∧ L'.forced = L.forced ∧ L'.fr = L.fr ∧ L'.ring = L.ring) ∧ (∀ k, S' k → S k ∨ w.heap.size ≤ k) ∧ Kept w w' (fun k => S k ∨ k = p) := by
  have hx := h.I.C.x1
  have hw := h.I.wait
  obtain ⟨M', e, li, _⟩ := h.I.append (by omega) hY hl hr
  have q := append_l h.G (h.I.ok (by omega)) A cc l hC hcc hY (by omega) (by omega)
  rw [e] at q
  refine q.mono ?_
  rintro e w' ⟨rfl, S', hg, hs, hk⟩
  exact ⟨rfl, S', _, M', ⟨hg, li⟩, ⟨rfl, rfl, rfl, rfl, rfl, rfl⟩, hs, hk⟩
theorem wl_force (h : Wl w0 w p g S N c L M es ws) (hc : c ≤ 10000) : Calls Try.prog 43 #[.pointer (some ⟨p, 0, none⟩)] w fun e w' => e = .returned (.int .i64 0) ∧ ∃ L' M', Wl w0 w' p g S N c L' M' (es ++ ws) [] ∧ (L'.next = L.next ∧ L'.life = L.life ∧ L'.start = L.start ∧ L'.forced = L.next ∧ L'.fr = L.fr ∧ L'.ring = L.ring) ∧ Kept w w' (fun k => S k ∨ k = p) := by
  obtain ⟨e1, e2, li, _⟩ := h.I.force (by omega)
  have hw := h.I.wait
  have q := force_l h.G (by omega)
  rw [e1, e2] at q
  refine q.mono ?_
  rintro e w' ⟨rfl, hg, hk⟩
  exact ⟨rfl, _, _, ⟨hg, li⟩, ⟨rfl, rfl, rfl, rfl, rfl, rfl⟩, hk⟩
theorem wl_cut (h : Wl w0 w p g S N c L M es ws) (hc : c ≤ 10000) {lsn : Int} (hab : es ++ ws = a ++ b) (ha : Ents (L.rd M) L.start L.floor a lsn) (hb : Ents (L.rd M) lsn (lastL L.floor a) b L.next) : Calls Try.prog 45 #[.pointer (some ⟨p, 0, none⟩), .int .u64 lsn] w fun e w' =>
    e = .returned (.int .i64 0) ∧ ∃ S' L' M', Wl w0 w' p g S' N (c + 1) L' M' b [] ∧ (L'.next = L.next ∧ L'.life = L.life ∧ L'.start = lsn ∧ L'.fr = L.fr ∧ L'.ring = L.ring) ∧ (∀ k, S' k → S k ∨ w.heap.size ≤ k) ∧ Kept w w' (fun k => S k ∨ k = p) := by
  have h0 := Ents.le _ _ _ ha
  have h1 := Ents.le _ _ _ hb
  have hs0 := h.I.C.s0
  have hx := h.I.C.x1
  have hw := h.I.wait
  obtain ⟨L', M', e, li, k1, k2, k3, k4, k5, _⟩ := h.I.cut (by omega) hab ha hb
  have q := cut_l h.G (h.I.ok (by omega)) h.I.C.Y lsn (by omega) (by omega) (by omega)
  rw [e] at q
  refine q.mono ?_
  rintro e w' ⟨rfl, S', hg, hs, hk⟩
  exact ⟨rfl, S', L', M', ⟨hg, li⟩, ⟨k2, k3, k1, k4, k5⟩, hs, hk⟩
theorem wl_open (hD : St w0 w g S M) (hY : DY M) (hw : M.wait.length < 900000) {fr n : Int} (hn1 : n < 9223372036854775808) (hn0 : -9223372036854775808 ≤ n) (e : opn M fr n = ⟨some L', 0, M'⟩) (hI : LI N c L' M' es ws) : Calls Try.prog 35 #[.pointer (some ⟨g, 0, none⟩), .int .i64 fr, .int .i64 n] w fun e w' =>
    ∃ p S', e = .returned (.tuple #[.pointer (some ⟨p, 0, none⟩), .int .i64 0]) ∧ Wl w0 w' p g S' N c L' M' es ws ∧ w.heap.size ≤ p ∧ (∀ k, S' k → S k ∨ w.heap.size ≤ k) ∧ Kept w w' S := by
  have q := open_s hD hY hw fr n hn1 hn0 (L := L') (by rw [e])
  rw [e] at q
  refine q.mono ?_
  rintro e w' ⟨p, S', rfl, hp, hl, hs, hk⟩
  exact ⟨p, S', rfl, ⟨hl, hI⟩, hp, hs, hk⟩
theorem wl_found (h : Wl w0 w p g S N c L M es ws) (hc : c ≤ 10000) : Calls Try.prog 39 #[.pointer (some ⟨p, 0, none⟩)] w fun e w' =>
    ∃ v1 v2, e = .returned (.tuple #[v1, v2]) ∧ Kd.string.R 9 w' w.heap.size (fun _ => True) v1 ((numb L.start (es ++ ws)).map fun x => strOfNums x.2) ∧ (Kd.int .u64).R 55 w' w.heap.size (fun _ => True) v2 ((numb L.start (es ++ ws)).map fun x => x.1) ∧ Below w.heap.size w w' := by
  have q := found_l h.G (h.I.ok (by omega)) h.I.C.Y
  rw [h.I.alls (by omega)] at q
  exact q
end
end Go.Proofs.Ytihmfccpgahmaaa.Wal
