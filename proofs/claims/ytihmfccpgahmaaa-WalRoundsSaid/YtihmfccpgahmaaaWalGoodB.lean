/- What Append laid is read again: entries on a disk that works. Plain Lean. No conditions beyond those that are named. -/
import Derived.Test.YtihmfccpgahmaaaWalGood
namespace Go.Proofs.Ytihmfccpgahmaaa.Wal
open Go Go.RowKit
open Go.Proofs.YtihmfccpgahmaaaW.PrintWords hiding Kept Kept.refl
open Go.Proofs.YtihmfccpgahmaaaW.PrintMore Go.Proofs.YtihmfccpgahmaaaW.PrintLast Go.Proofs.Ytihmfccpgahmaaa.Dk Go.Proofs.Ytihmfccpgahmaaa.Q Go.Proofs.Ytihmfccpgahmaaa.Str Go.Proofs.Ytihmfccpgahmaaa.Leb
set_option linter.unusedVariables false
set_option linter.unusedSimpArgs false
theorem needN_pos (n : Nat) : 1 ≤ needN n := by unfold needN; omega
theorem needN_one {n : Nat} (h : n ≤ 480) : needN n = 1 := by unfold needN; omega
theorem needN_more {n : Nat} (h : 480 < n) : needN n = needN (n - 480) + 1 := by unfold needN; omega
/-- A part that was laid is read. -/
theorem rtext_fwd (b t : List Int) (h : b.length ≤ 480) : rtext ⟨leb b.length ++ (b ++ t), 0⟩ 480 = (strOfNums b, ⟨t, 0⟩) := by
  have e := rnum_fwd (most := 480) b.length (b ++ t) (by omega) (by omega)
  unfold rtext
  dsimp only
  rw [show (if (0 : Int) < 480 then (480 : Int) else 0) = 480 from rfl, e]
  dsimp only
  rw [if_pos rfl, if_neg (by rw [List.length_append]; omega), Int.toNat_natCast, List.take_left, List.drop_left]
theorem prt_sec {n life : Int} {last : Bool} {b : List Int} (h0 : 0 ≤ n) (h1 : n < 9223372036854775807) (h2 : 0 ≤ life) (h3 : life ≤ 1099511627776) (h4 : b.length ≤ 480) : prt (wholeF (secB n life last b)) n = ⟨life, last, strOfNums b, true, 0⟩ := by
  obtain ⟨Z, hZ⟩ : ∃ Z, Z = List.replicate (512 - (secB n life last b).length) (0 : Int) := ⟨_, rfl⟩
  have e : wholeF (secB n life last b) = leb (n + 1).toNat ++ (leb life.toNat ++ (leb (if last = true then 1 else 0) ++ (leb b.length ++ (b ++ Z)))) := by
    unfold wholeF
    rw [← hZ]
    unfold secB
    simp only [List.append_assoc]
  clear hZ
  have e1 := rnum_fwd (most := 9223372036854775807) (n + 1).toNat (leb life.toNat ++ (leb (if last = true then 1 else 0) ++ (leb b.length ++ (b ++ Z)))) (by omega) (by omega)
  have e2 := rnum_fwd (most := 1099511627776) life.toNat (leb (if last = true then 1 else 0) ++ (leb b.length ++ (b ++ Z))) (by omega) (by omega)
  have e3 := rnum_fwd (most := 1) (if last = true then 1 else 0) (leb b.length ++ (b ++ Z)) (by split <;> omega) (by split <;> omega)
  have e4 := rtext_fwd b Z h4
  unfold prt
  rw [e, e1]
  dsimp only
  rw [e2]
  dsimp only
  rw [e3]
  dsimp only
  rw [e4]
  dsimp only
  have k1 : ((life.toNat : Nat) : Int) = life := by omega
  have k2 : ((((if last = true then 1 else 0 : Nat)) : Int) == 1) = last := by cases last <;> rfl
  have k3 : (((n + 1).toNat : Nat) : Int) = n + 1 := by omega
  rw [k1, k2, k3]
  simp
/-- An entry's sectors, from number n on, as R reads them. -/
def lies (R : Int → Part) (life : Int) : Nat → Int → List Int → Prop
  | 0, _, _ => False
  | k + 1, n, r => R n = ⟨life, decide (r.length ≤ 480), strOfNums (r.take 480), true, 0⟩ ∧ (480 < r.length → lies R life k (n + 1) (r.drop 480))
theorem lies_frame {R R' : Int → Part} {life : Int} : ∀ (k : Nat) (n : Int) (r : List Int), (∀ m, n ≤ m → m < n + needN r.length → R' m = R m) → lies R life k n r → lies R' life k n r
  | 0, _, _, _, h => h
  | k + 1, n, r, hf, h => by
    have hp := needN_pos r.length
    refine ⟨by rw [hf n (by omega) (by omega)]; exact h.1, fun hl => lies_frame k (n + 1) (r.drop 480) (fun m a b => hf m (by omega) ?_) (h.2 hl)⟩
    rw [List.length_drop] at b
    have := needN_more hl
    omega
section
variable {M : DA} {N : Nat} {L : LA}
theorem ent_lies (lsn life : Int) : ∀ (k F : Nat) (n life0 : Int) (r out : List Int), Byt r → k ≤ F → lies (L.rd M) life k n r → (lsn < n → life0 = life) → life0 ≤ life → L.ent M lsn F n life0 out = ⟨out ++ r, n + needN r.length, life, true, 0⟩
  | 0, _, _, _, _, _, _, _, h, _, _ => h.elim
  | k + 1, 0, _, _, _, _, _, h, _, _, _ => by omega
  | k + 1, F + 1, n, life0, r, out, hb, hF, h, h1, h2 => by
    obtain ⟨hr, hm⟩ := h
    rw [LA.ent_succ, hr, if_neg (by
      unfold Part.bad
      rintro (c | c | c | c)
      · exact c rfl
      · cases c
      · have c2 : life < life0 := c
        omega
      · exact c.2 (h1 c.1).symm)]
    by_cases hl : r.length ≤ 480
    · have e : r.take 480 = r := List.take_of_length_le hl
      rw [if_pos (decide_eq_true hl)]
      show (⟨out ++ bytesOf (strOfNums (r.take 480)), n + 1, life, true, 0⟩ : Ent) = _
      rw [e, back hb, needN_one hl]
      rfl
    · rw [if_neg (by show ¬ decide (r.length ≤ 480) = true; rw [decide_eq_true_eq]; exact hl)]
      show L.ent M lsn F (n + 1) life (out ++ bytesOf (strOfNums (r.take 480))) = _
      rw [back (hb.take 480), ent_lies lsn life k F (n + 1) life (r.drop 480) _ (hb.drop 480) (by omega) (hm (by omega)) (fun _ => rfl) (Int.le_refl _), List.append_assoc, List.take_append_drop, List.length_drop, needN_more (show 480 < r.length by omega)]
      congr 1
      omega
/-- The log's place on the disk. -/
structure Geo (L : LA) (N : Nat) : Prop where
  f0 : 0 ≤ L.fr
  r0 : 0 < L.ring
  fn : L.fr + 2 + L.ring ≤ N
  l0 : 0 ≤ L.life
  l1 : L.life ≤ 1099511627776
theorem Geo.pl (h : Geo L N) (k : Int) : 0 ≤ L.pl k ∧ L.pl k < N ∧ L.fr + 2 ≤ L.pl k := by
  have h1 := Int.emod_nonneg k (show L.ring ≠ 0 by have := h.r0; omega)
  have h2 := Int.emod_lt_of_pos k h.r0
  have := h.f0
  have := h.fn
  unfold LA.pl
  omega
theorem pl_ne {m n : Int} (hr : 0 < L.ring) (h : m ≠ n) (h1 : m - n < L.ring) (h2 : n - m < L.ring) : L.pl m ≠ L.pl n := by
  intro he
  unfold LA.pl at he
  have e1 := Int.emod_add_mul_ediv m L.ring
  have e2 := Int.emod_add_mul_ediv n L.ring
  have hd : L.ring ∣ m - n := ⟨m / L.ring - n / L.ring, by rw [Int.mul_sub]; omega⟩
  rcases Int.lt_trichotomy m n with a | a | a
  · have := Int.le_of_dvd (show 0 < -(m - n) by omega) (Int.dvd_neg.2 hd)
    omega
  · exact h a
  · have := Int.le_of_dvd (by omega) hd
    omega
theorem rd_cong {M' : DA} {n : Int} (h : M'.rdE (L.pl n) = M.rdE (L.pl n) ∧ M'.rdB (L.pl n) = M.rdB (L.pl n)) : L.rd M' n = L.rd M n := by
  unfold LA.rd
  rw [h.1, h.2]
/-- What Append writes. -/
def LA.wrs (L : LA) : Nat → List Int → List (Int × List Int)
  | 0, _ => []
  | k + 1, r => (L.pl L.next, secB L.next L.life (decide (r.length ≤ 480)) (r.take 480)) :: (if r.length ≤ 480 then [] else L.app1.wrs k (r.drop 480))
/-- What Append makes of a disk that works, if there is room. -/
structure AppG (L : LA) (M : DA) (N k : Nat) (r : List Int) (A : App) : Prop where
  e : A.e = 0
  la : A.L = { L with next := L.next + needN r.length }
  g : Gd A.M N
  o : ∀ j : Int, 0 ≤ j → j < N → (∀ m, L.next ≤ m → m < L.next + needN r.length → L.pl m ≠ j) → A.M.rdE j = M.rdE j ∧ A.M.rdB j = M.rdB j
  s : lies (L.rd A.M) L.life k L.next r
  w : A.M.wait = M.wait ++ L.wrs k r
theorem app_good : ∀ (k : Nat) (r : List Int) (L : LA) (M : DA), Gd M N → Geo L N → 0 ≤ L.next → L.next + needN r.length ≤ 9223372036854775807 → needN r.length ≤ k → (needN r.length : Int) ≤ L.ring → AppG L M N k r (L.app M k r)
  | 0, r, L, M, hM, hg, h0, h1, h2, h3 => by have := needN_pos r.length; omega
  | k + 1, r, L, M, hM, hg, h0, h1, h2, h3 => by
    have hp := needN_pos r.length
    obtain ⟨p0, p1, _⟩ := hg.pl L.next
    have hl0 := hg.l0
    have hl1 := hg.l1
    have hlen : (secB L.next L.life (decide (r.length ≤ 480)) (r.take 480)).length ≤ 512 := sec_len (by omega) (by omega) (by rw [List.length_take]; omega)
    obtain ⟨B, hB⟩ : ∃ B, B = secB L.next L.life (decide (r.length ≤ 480)) (r.take 480) := ⟨_, rfl⟩
    have hwe := hM.wrE p0 p1 (n := B.length) (by rw [hB]; exact hlen)
    have hw := hM.wr_eq p0 p1 (l := B) (by rw [hB]; exact hlen)
    have hg1 := hM.wr p0 p1 (l := B) (by rw [hB]; exact hlen)
    have hs := hM.rd_same p0 p1 (l := B) (by rw [hB]; exact hlen)
    have hrd : L.rd (M.wr (L.pl L.next) B) L.next = ⟨L.life, decide (r.length ≤ 480), strOfNums (r.take 480), true, 0⟩ := by
      unfold LA.rd
      rw [if_pos hs.1, hs.2, hB]
      exact prt_sec h0 (by omega) hl0 hl1 (by rw [List.length_take]; omega)
    have ho : ∀ j : Int, 0 ≤ j → j < N → L.pl L.next ≠ j → (M.wr (L.pl L.next) B).rdE j = M.rdE j ∧ (M.wr (L.pl L.next) B).rdB j = M.rdB j := fun j a b c => hM.rd_other p0 p1 (by rw [hB]; exact hlen) a b c
    have hwt : (M.wr (L.pl L.next) B).wait = M.wait ++ [(L.pl L.next, B)] := by rw [hw]
    rw [app_succ, ← hB, if_pos hwe]
    by_cases hl : r.length ≤ 480
    · rw [if_pos hl]
      have hn := needN_one hl
      refine ⟨rfl, ?_, hg1, fun j a b c => ho j a b (c _ (Int.le_refl _) (by omega)), ⟨hrd, fun h => by omega⟩, ?_⟩
      · rw [hn]; rfl
      · show _ = _ ++ (_ :: (if r.length ≤ 480 then [] else _))
        rw [if_pos hl, hwt, hB]
    · rw [if_neg hl]
      have hn := needN_more (show 480 < r.length by omega)
      have hd : (r.drop 480).length = r.length - 480 := List.length_drop
      have ih := app_good k (r.drop 480) L.app1 (M.wr (L.pl L.next) B) hg1 ⟨hg.f0, hg.r0, hg.fn, hg.l0, hg.l1⟩ (by show 0 ≤ L.next + 1; omega) (by show L.next + 1 + _ ≤ _; rw [hd]; omega) (by rw [hd]; omega) (by show _ ≤ L.ring; rw [hd]; omega)
      have hpd := needN_pos (r.drop 480).length
      refine ⟨ih.e, ?_, ih.g, fun j a b c => ?_, ⟨?_, fun _ => ih.s⟩, ?_⟩
      · rw [ih.la]
        show ({ L with next := L.next + 1 + needN (r.drop 480).length } : LA) = _
        rw [hd, hn]
        congr 1
        omega
      · have q := ih.o j a b (fun m x y => c m (by have x2 : L.next + 1 ≤ m := x; omega) (by have y2 : m < L.next + 1 + needN (r.drop 480).length := y; rw [hd] at y2; omega))
        have q2 := ho j a b (c _ (Int.le_refl _) (by omega))
        exact ⟨q.1.trans q2.1, q.2.trans q2.2⟩
      · rw [← hrd]
        exact rd_cong (ih.o _ p0 p1 (fun m x y => by
          have x2 : L.next + 1 ≤ m := x
          have y2 : m < L.next + 1 + needN (r.drop 480).length := y
          rw [hd] at y2
          show L.pl m ≠ L.pl L.next
          exact pl_ne hg.r0 (by omega) (by omega) (by omega)))
      · rw [ih.w, hwt, List.append_assoc]
        show _ = _ ++ (_ :: (if r.length ≤ 480 then [] else _))
        rw [if_neg hl, hB]
        rfl
/-- Entries, each with its life, from number a on to z. -/
def Ents (R : Int → Part) : Int → Int → List (Int × List Int) → Int → Prop
  | a, _, [], z => a = z
  | a, lf, x :: t, z => Byt x.2 ∧ lf ≤ x.1 ∧ lies R x.1 (needN x.2.length) a x.2 ∧ Ents R (a + needN x.2.length) x.1 t z
def numb : Int → List (Int × List Int) → List (Int × List Int)
  | _, [] => []
  | a, x :: t => (a, x.2) :: numb (a + needN x.2.length) t
def lastL : Int → List (Int × List Int) → Int
  | lf, [] => lf
  | _, x :: t => lastL x.1 t
theorem Ents.le {R : Int → Part} {z : Int} : ∀ (es : List (Int × List Int)) (a lf : Int), Ents R a lf es z → a ≤ z
  | [], _, _, h => Int.le_of_eq h
  | x :: t, a, lf, h => by have := Ents.le t _ _ h.2.2.2; omega
theorem Ents.frame {R R' : Int → Part} {z : Int} : ∀ (es : List (Int × List Int)) (a lf : Int), (∀ m, a ≤ m → m < z → R' m = R m) → Ents R a lf es z → Ents R' a lf es z
  | [], _, _, _, h => h
  | x :: t, a, lf, hf, h => by
    have hz := Ents.le t _ _ h.2.2.2
    exact ⟨h.1, h.2.1, lies_frame _ _ _ (fun m p q => hf m p (by omega)) h.2.2.1, Ents.frame t _ _ (fun m p q => hf m (by omega) q) h.2.2.2⟩
theorem Ents.snoc {R : Int → Part} {z life : Int} {b : List Int} (hb : Byt b) (hs : lies R life (needN b.length) z b) : ∀ (es : List (Int × List Int)) (a lf : Int), Ents R a lf es z → lastL lf es ≤ life → Ents R a lf (es ++ [(life, b)]) (z + needN b.length)
  | [], a, lf, h, hl => by
    have e : a = z := h
    rw [e]
    exact ⟨hb, hl, hs, rfl⟩
  | x :: t, a, lf, h, hl => ⟨h.1, h.2.1, h.2.2.1, Ents.snoc hb hs t _ _ h.2.2.2 hl⟩
theorem entry_lies {a lf : Int} {x : Int × List Int} (hb : Byt x.2) (hl : lf ≤ x.1) (hs : lies (L.rd M) x.1 (needN x.2.length) a x.2) (h1 : a + needN x.2.length ≤ L.start + L.ring) : L.entry M a lf = ⟨x.2, a + needN x.2.length, x.1, true, 0⟩ := by
  unfold LA.entry
  rw [ent_lies a x.1 (needN x.2.length) _ a lf x.2 [] hb (by omega) hs (fun h => by omega) hl]
  rfl
theorem all_ents (hn : L.next ≤ L.start + L.ring) : ∀ (es : List (Int × List Int)) (k : Nat) (a lf : Int), Ents (L.rd M) a lf es L.next → es.length < k → L.all M k a lf = numb a es
  | [], k + 1, a, lf, h, _ => by
    have e : a = L.next := h
    rw [all_succ, if_neg (by omega)]; rfl
  | x :: t, k + 1, a, lf, h, hk => by
    have hz := Ents.le t _ _ h.2.2.2
    have hp := needN_pos x.2.length
    have he := entry_lies h.1 h.2.1 h.2.2.1 (by omega)
    rw [all_succ, if_pos (by omega), he, if_neg (by rintro (c | c); exact c rfl; cases c)]
    show (a, x.2) :: L.all M k (a + needN x.2.length) x.1 = _
    rw [all_ents hn t k _ _ h.2.2.2 (by simpa using hk)]
    rfl
theorem Ents.len {R : Int → Part} {z : Int} : ∀ (es : List (Int × List Int)) (a lf : Int), Ents R a lf es z → (es.length : Int) ≤ z - a
  | [], a, lf, h => by have e : a = z := h; simp; omega
  | x :: t, a, lf, h => by
    have := Ents.len t _ _ h.2.2.2
    have := needN_pos x.2.length
    rw [List.length_cons]
    omega
theorem alls_ents (hn : L.next ≤ L.start + L.ring) {es : List (Int × List Int)} {a : Int} (h : Ents (L.rd M) a 0 es L.next) : L.alls M a = numb a es := by
  have := Ents.len _ _ _ h
  exact all_ents hn es _ a 0 h (by omega)
theorem scan_ents {z : Int} (hn : z ≤ L.start + L.ring) : ∀ (es : List (Int × List Int)) (k : Nat) (a lf : Int), Ents (L.rd M) a lf es z → es.length < k → (L.entry M z (lastL lf es)).ok = false ∧ (L.entry M z (lastL lf es)).e = 0 → L.scan M k a lf = ⟨z, lastL lf es, 0⟩
  | [], k + 1, a, lf, h, _, hz => by
    have e : a = z := h
    have hz1 : (L.entry M z lf).ok = false := hz.1
    have hz2 : (L.entry M z lf).e = 0 := hz.2
    rw [scan_succ, e, if_neg (by rw [hz2]; decide), if_neg (by rw [hz1]; decide)]; rfl
  | x :: t, k + 1, a, lf, h, hk, hz => by
    have hzz := Ents.le t _ _ h.2.2.2
    have he := entry_lies h.1 h.2.1 h.2.2.1 (by omega)
    rw [scan_succ, he, if_neg (fun c => c rfl), if_pos rfl]
    exact scan_ents hn t k _ _ h.2.2.2 (by simpa using hk) hz
/-- Append, on a disk that works, with room. -/
theorem append_good (hM : Gd M N) (hg : Geo L N) (h0 : 0 ≤ L.next) {l : List Int} (hl : l.length ≤ 16384) (hr : (needN l.length : Int) ≤ L.free) (hs : L.start ≤ L.next) (h1 : L.next + needN l.length ≤ 9223372036854775807) :
    ∃ M', L.append M l = ⟨L.next, 0, { L with next := L.next + needN l.length }, M'⟩ ∧ AppG L M N (needN l.length) l ⟨{ L with next := L.next + needN l.length }, M', 0⟩ := by
  unfold LA.free at hr
  have h := app_good (needN l.length) l L M hM hg h0 h1 (Nat.le_refl _) (by omega)
  refine ⟨(L.app M (needN l.length) l).M, ?_, ?_⟩
  · unfold LA.append LA.free
    rw [if_neg (by omega), if_neg (by omega), if_pos h.e, h.e, h.la]
  · exact ⟨rfl, rfl, h.g, h.o, h.s, h.w⟩
/-- Entries stay where Append writes behind them. -/
theorem append_ents {l : List Int} {M' : DA} {es : List (Int × List Int)} {a lf : Int} (hg : Geo L N) (hb : Byt l) (h : AppG L M N (needN l.length) l ⟨{ L with next := L.next + needN l.length }, M', 0⟩) (he : Ents (L.rd M) a lf es L.next) (ha : L.start ≤ a) (hr : L.next + needN l.length ≤ L.start + L.ring) (hl : lastL lf es ≤ L.life) :
    Ents (({ L with next := L.next + needN l.length } : LA).rd M') a lf (es ++ [(L.life, l)]) (L.next + needN l.length) := by
  refine Ents.snoc (R := L.rd M') hb h.s es a lf (Ents.frame es a lf (fun m x y => ?_) he) hl
  obtain ⟨p0, p1, _⟩ := hg.pl m
  exact rd_cong (h.o _ p0 p1 (fun n x2 y2 => pl_ne hg.r0 (by omega) (by omega) (by omega)))
end
end Go.Proofs.Ytihmfccpgahmaaa.Wal
