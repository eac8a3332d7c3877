/- The law WalKeeps: the lists that the law keeps beside the log. Plain Lean. No conditions beyond those that are named. -/
import Derived.Test.YtihmfccpgahmaaaWalFell
import Derived.Test.YtihmfccpgahmaaaWalCr
import Derived.Test.YtihmfccpgahmaaaQ4
import Derived.Test.YtihmfccpgahmaaaWKept
import Derived.Deep.AppendSrc
import Derived.Test.YtihmfccpgahmaaaBits
import Derived.OwnWalkIn
import Derived.Deep.QuietTactic
import Derived.BigQuiet
namespace Go.Proofs.Ytihmfccpgahmaaa.Wal
open Go Go.RowKit
open Go.Proofs.YtihmfccpgahmaaaW.PrintWords hiding Kept Kept.refl
open Go.Proofs.YtihmfccpgahmaaaW.PrintMore Go.Proofs.YtihmfccpgahmaaaW.PrintLast Go.Proofs.Ytihmfccpgahmaaa.Dk Go.Proofs.Ytihmfccpgahmaaa.Q Go.Proofs.Ytihmfccpgahmaaa.Str Go.Proofs.Ytihmfccpgahmaaa.Leb
set_option linter.unusedVariables false
set_option linter.unusedSimpArgs false
def strs (es : List (Int × List Int)) : List ByteArray := es.map fun x => strOfNums x.2
def ats (a : Int) (es : List (Int × List Int)) : List Int := (numb a es).map fun x => x.1
theorem numb_strs : ∀ (es : List (Int × List Int)) (a : Int), (numb a es).map (fun x => strOfNums x.2) = strs es
  | [], _ => rfl
  | x :: t, a => congrArg (strOfNums x.2 :: ·) (numb_strs t _)
theorem strs_app (es ws : List (Int × List Int)) : strs (es ++ ws) = strs es ++ strs ws := List.map_append
theorem szs_app : ∀ (es ws : List (Int × List Int)), szs (es ++ ws) = szs es + szs ws
  | [], ws => by show szs ws = 0 + szs ws; omega
  | x :: t, ws => by
    have := szs_app t ws
    show needN x.2.length + szs (t ++ ws) = needN x.2.length + szs t + szs ws
    omega
theorem ats_app : ∀ (es ws : List (Int × List Int)) (a : Int), ats a (es ++ ws) = ats a es ++ ats (a + szs es) ws
  | [], ws, a => by show ats a ws = ats (a + 0) ws; rw [Int.add_zero]
  | x :: t, ws, a => by
    show a :: ats (a + needN x.2.length) (t ++ ws) = a :: (ats (a + needN x.2.length) t ++ ats (a + (needN x.2.length + szs t)) ws)
    rw [ats_app t ws, Int.add_assoc]
theorem ats_len (es : List (Int × List Int)) (a : Int) : (ats a es).length = es.length := by
  unfold ats
  rw [List.length_map]
  induction es generalizing a with
  | nil => rfl
  | cons x t ih => show (numb _ t).length + 1 = t.length + 1; rw [ih]
theorem strs_len (es : List (Int × List Int)) : (strs es).length = es.length := List.length_map ..
theorem szs_nn : ∀ t : List (Int × List Int), 0 ≤ szs t
  | [] => Int.le_refl _
  | x :: t => by have := szs_nn t; show 0 ≤ needN x.2.length + szs t; omega
/-- The k-th entry's number. -/
theorem ats_get (es : List (Int × List Int)) (a : Int) (k : Nat) (hk : k < es.length) : (ats a es)[k]? = some (a + szs (es.take k)) := by
  induction es generalizing a k with
  | nil => exact absurd hk (Nat.not_lt_zero _)
  | cons x t ih =>
    cases k with
    | zero => show some a = some (a + 0); rw [Int.add_zero]
    | succ k =>
      show (ats (a + needN x.2.length) t)[k]? = some (a + (needN x.2.length + szs (t.take k)))
      rw [ih _ _ (by simpa using hk), Int.add_assoc]
/-- The entries ahead of the k-th, and those from it on. -/
theorem Ents.split {R : Int → Part} {z : Int} : ∀ (es : List (Int × List Int)) (a lf : Int) (k : Nat), Ents R a lf es z → Ents R a lf (es.take k) (a + szs (es.take k)) ∧ Ents R (a + szs (es.take k)) (lastL lf (es.take k)) (es.drop k) z
  | [], a, lf, k, h => by
    rw [List.take_nil, List.drop_nil]
    show (a = a + 0) ∧ (a + 0 = z)
    have e : a = z := h
    omega
  | x :: t, a, lf, 0, h => by
    show (a = a + 0) ∧ Ents R (a + 0) lf (x :: t) z
    rw [Int.add_zero]
    exact ⟨rfl, h⟩
  | x :: t, a, lf, k + 1, h => by
    obtain ⟨h1, h2⟩ := Ents.split t _ _ k h.2.2.2
    show Ents R a lf (x :: t.take k) (a + (needN x.2.length + szs (t.take k))) ∧ Ents R (a + (needN x.2.length + szs (t.take k))) (lastL x.1 (t.take k)) (t.drop k) z
    rw [← Int.add_assoc]
    exact ⟨⟨h.1, h.2.1, h.2.2.1, h1⟩, h2⟩
section
variable {M : DA} {N c : Nat} {L : LA} {es ws : List (Int × List Int)}
theorem LI.next_eq (h : LI N c L M es ws) (hc : c ≤ 1000000) : L.next = L.start + szs (es ++ ws) := Ents.size _ _ _ (h.ents hc)
theorem LI.forced_eq (h : LI N c L M es []) : L.forced = L.next := h.C.eW
/-- A log on a new disk, from any sector on. -/
theorem new_LI2 (N : Nat) (fr n : Int) (hN : N ≤ 65536) (h1 : 2 < n) (hf : 0 ≤ fr) (h2 : n ≤ (N : Int) - fr) : ∃ L' M', opn (DA.new (newN N).toNat) fr n = ⟨some L', 0, M'⟩ ∧ LI N 1 L' M' [] [] ∧ L'.life = 1 ∧ L'.start = 0 ∧ L'.next = 0 ∧ L'.fr = fr ∧ L'.ring = n - 2 ∧ M'.wait = [] := by
  obtain ⟨hg, hz⟩ := new_gd (N : Int) (by omega) (by omega)
  rw [Int.toNat_natCast] at hg
  have eN : (newN (N : Int)).toNat = N := by unfold newN; repeat' split <;> omega
  have hD : Dn (DA.new (newN (N : Int)).toNat) N := by rw [eN]; exact Dn.new N
  have hY : DY (DA.new (newN (N : Int)).toNat) := new_DY _
  have hO := opn_fresh hg (by omega) (fr := fr) (n := n) (by omega) (by omega) (by omega) (fun j a b => hz j (by omega) (by omega))
  generalize DA.new (newN (N : Int)).toNat = M at hg hz hD hY hO ⊢
  have hm : ∀ k : Int, 0 ≤ k → k < 2 → ∀ L : LA, L.fr = fr → L.ms M k = mst zeros k := fun k a b L hL => by
    obtain ⟨q1, q2⟩ := hz (fr + k) (by omega) (by omega)
    unfold LA.ms; rw [hL, if_pos q1, q2]
  obtain ⟨L0, hL0, a1, a2, a3, a4, a5, a6, a7, a8⟩ : ∃ L0 : LA, L0 = ⟨fr, n - 2, 0, 1, 0, 1, 0, 0⟩ ∧ L0.fr = fr ∧ L0.ring = n - 2 ∧ L0.seq = 0 ∧ L0.life = 1 ∧ L0.start = 0 ∧ L0.floor = 1 ∧ L0.next = 0 ∧ L0.forced = 0 :=
    ⟨_, rfl, rfl, rfl, rfl, rfl, rfl, rfl, rfl, rfl⟩
  have eU : (⟨fr, n - 2, 1, 1, 0, 1, 0, 0⟩ : LA) = L0.up := by rw [hL0]; rfl
  clear hL0
  have b0 : Bd L0 := by constructor <;> omega
  have hms : L0.ms M (L0.seq % 2) = mst zeros (L0.seq % 2) := hm _ (by omega) (by omega) _ a1
  obtain ⟨m1, m2, m3, m4, m5⟩ := mark_good hg b0 (⟨by rw [hms]; rfl, fun c => by rw [hms, ms_zeros] at c; cases c⟩ : Old L0 M) (by omega) (by omega) (by omega)
  obtain ⟨n1, n2⟩ := mk_flat (L := L0) hg hD b0 (by omega) (by omega) (by omega)
  have hNm : L0.up.Nm := ⟨⟨show 0 ≤ L0.fr by omega, show L0.fr ≤ 65536 by omega⟩, ⟨show 0 ≤ L0.seq + 1 by omega, show L0.seq + 1 < 18446744073709551616 by omega⟩, ⟨show 0 ≤ L0.life by omega, show L0.life < 18446744073709551616 by omega⟩, ⟨show 0 ≤ L0.start by omega, show L0.start < 18446744073709551616 by omega⟩, ⟨show 0 ≤ L0.floor by omega, show L0.floor < 18446744073709551616 by omega⟩⟩
  have hI : L0.mkI = fr + 1 := by show L0.fr + (L0.seq + 1) % 2 = _; omega
  have e : (M.wr (fr + 1) (⟨fr, n - 2, 1, 1, 0, 1, 0, 0⟩ : LA).mb).sy = L0.mkM M := by
    rw [(hg.mark hNm (by omega) (by omega)).2.1, hI, eU]
  rw [hO, e, eU]
  have hY1 : DY (L0.mkM M) := mkM_DY hY
  have hrd : ∀ m, (L0.up.rd (L0.mkM M) m).ok = false ∧ (L0.up.rd (L0.mkM M) m).e = 0 ∨ m < 0 := fun m => by
    by_cases hm0 : m < 0
    · exact .inr hm0
    · left
      obtain ⟨p0, p1, p2⟩ := (show Geo L0 N from ⟨by omega, by omega, by omega, by omega, by omega⟩).pl m
      obtain ⟨q1, q2⟩ := m5 (L0.pl m) p2 p1
      obtain ⟨q3, q4⟩ := hz (L0.pl m) p0 (by omega)
      show (L0.rd (L0.mkM M) m).ok = false ∧ (L0.rd (L0.mkM M) m).e = 0
      unfold LA.rd
      rw [if_pos (q1.trans q3), q2, q4]
      exact prt_zeros m (by omega)
  refine ⟨L0.up, L0.mkM M, rfl, LI.flat m2 n1 hY1 m4 n2 (by show 0 ≤ L0.fr; omega) (by show 0 < L0.ring; omega) (by show L0.fr + 2 + L0.ring ≤ _; omega) hN (by show 0 ≤ L0.seq + 1; omega) (by show L0.seq + 1 ≤ _; omega) (by show 0 ≤ L0.life; omega) (by show L0.life ≤ _; omega) (by show 0 ≤ L0.start; omega) (by show 0 ≤ L0.floor; omega) (by show L0.floor ≤ L0.life; omega) (by show L0.forced = L0.next; omega) (by show L0.next ≤ L0.start + L0.ring; omega) (by show L0.next ≤ _; omega) (by omega) ?_ ?_ ?_ ?_ m3, a4, a5, a7, a1, a2, m4⟩
  · show L0.start = L0.next
    omega
  · show L0.floor ≤ L0.life
    omega
  · intro m hm2 ho
    have hm3 : L0.next ≤ m := hm2
    rcases hrd m with c | c
    · rw [c.1] at ho; cases ho
    · omega
  · rcases hrd L0.up.next with c | c
    · exact NoE.bad c.2 (fun ho => by rw [c.1] at ho; cases ho)
    · have c2 : L0.next < 0 := c
      omega
end
end Go.Proofs.Ytihmfccpgahmaaa.Wal

namespace Go.Proofs.Ytihmfccpgahmaaa.Wal
open Go Go.RowKit
open Go.Proofs.YtihmfccpgahmaaaW.PrintWords hiding Kept Kept.refl
open Go.Proofs.YtihmfccpgahmaaaW.PrintMore Go.Proofs.YtihmfccpgahmaaaW.PrintLast Go.Proofs.Ytihmfccpgahmaaa.Dk Go.Proofs.Ytihmfccpgahmaaa.Q Go.Proofs.Ytihmfccpgahmaaa.Str Go.Proofs.Ytihmfccpgahmaaa.Leb
set_option linter.unusedVariables false
set_option linter.unusedSimpArgs false
theorem bytes_l0 (n : Nat) (h : n ≤ 2047) (x1 : Int) : ∀ (d k : Nat) (x5 : List Int) (x : Int), x5.length = n → 0 ≤ x → x ≤ n → n - x.toNat = d → d < k → ∃ r, dockmasterlaw05_bytes.l0 k x1 x5 (n : Int) x = some (strOfNums r) ∧ r.length = n := by
  intro d
  induction d with
  | zero =>
    intro k x5 x h5 h0 h1 hd hk
    obtain ⟨k, rfl⟩ : ∃ m, k = m + 1 := ⟨k - 1, by omega⟩
    simp only [dockmasterlaw05_bytes.l0]
    rw [if_neg (by omega)]
    exact ⟨x5, rfl, h5⟩
  | succ d ih =>
    intro k x5 x h5 h0 h1 hd hk
    obtain ⟨k, rfl⟩ : ∃ m, k = m + 1 := ⟨k - 1, by omega⟩
    simp only [dockmasterlaw05_bytes.l0]
    rw [if_pos (by omega), if_pos h0, if_pos (by omega)]
    have e : wrap64 (x + 1) = x + 1 := w64 (by omega) (by omega)
    rw [e]
    exact ih k _ (x + 1) (by rw [List.length_set]; exact h5) (by omega) (by omega) (by omega) (by omega)
/-- The law's bytes: a text of that size, the same one each time. -/
theorem bytes_v (n : Nat) (h : n ≤ 2047) (i : Int) : ∃ r : ByteArray, r.size = n ∧ ∀ w : World, Calls Try.prog 41 #[.int .i64 (n : Int), .int .i64 i] w fun e w' => e = .returned (.string r) ∧ Below w.heap.size w w' := by
  obtain ⟨r, hr, hl⟩ := bytes_l0 n h i n (n + 1) (List.replicate n 0) 0 (List.length_replicate) (by omega) (by omega) (by omega) (by omega)
  refine ⟨strOfNums r, by rw [size_str]; exact hl, fun w => (dockmasterlaw05_bytes.calls (n + 1) n i (strOfNums r) w ?_).mono ?_⟩
  · unfold dockmasterlaw05_bytes.f
    rw [if_pos (by omega), if_pos (by omega), Int.toNat_natCast]
    show dockmasterlaw05_bytes.l0 _ i (List.replicate n 0) ((List.replicate n (0 : Int)).length : Int) 0 = _
    rw [List.length_replicate]
    exact hr
  · rintro e w' ⟨he, hb⟩
    exact ⟨he, hb⟩
/-- A conversion's row is read, as long as its block stays. -/
theorem conv_C {w W' : World} {e : TypeId} {s : ByteArray} (hs : s.size ≤ 9223372036854775807) (hb : W'.heap[w.heap.size]? = (Lib.bytesWorld w e s).heap[w.heap.size]?) : Kd.C (Kd.int .u8) W' (some ⟨w.heap.size, 0, none⟩) (bytesOf s).length (bytesOf s) := by
  have r := bytes_reads w e s hs
  rw [bytesOf_length]
  refine Kd.C_of_reads (enc := Value.int .u8) (d := (0 : Int)) (h1 := fun _ => rfl) ⟨r.1, r.2.1, fun hp => ?_⟩
  obtain ⟨ad, ha, hc⟩ := r.2.2 hp
  refine ⟨ad, ha, fun j hj => ?_⟩
  have := hc j hj
  injection ha with ha
  subst ha
  rw [add_plain] at this ⊢
  rw [← this]
  simp only [World.cell?, hb]
end Go.Proofs.Ytihmfccpgahmaaa.Wal

namespace Go.Proofs.Ytihmfccpgahmaaa.Tl
open Go Go.RowKit
open Go.Proofs.YtihmfccpgahmaaaW.PrintWords hiding Kept Kept.refl
set_option linter.unusedVariables false
set_option linter.unusedSimpArgs false
def blkOf : Value → Option Nat
  | .slice (some a) _ _ => some a.block
  | _ => none
/-- A row, from a place on, in a block of one's own. -/
def TR {α : Type} (enc : α → Value) (e : TypeId) (base : Nat) (W : World) (v : Value) (xs : List α) : Prop :=
  ∃ (A : Option Addr) (cap : Nat), v = .slice A xs.length cap ∧ xs.length ≤ cap ∧ (0 < cap → ∃ g off, A = some ⟨g, off, none⟩ ∧ base ≤ g ∧ ∃ cells : Array Value, W.heap[g]? = some (.cells cells e (0, 0)) ∧ off + cap ≤ cells.size ∧ ∀ j (hj : j < xs.length), cells[off + j]? = some (enc xs[j]))
section
variable {α : Type} {enc : α → Value} {e base : Nat} {W W2 : World} {v : Value} {xs : List α}
theorem TR.nil (W : World) : TR enc e base W (.slice none 0 0) [] := ⟨none, 0, rfl, Nat.le_refl _, fun h => absurd h (Nat.lt_irrefl _)⟩
theorem TR.lit (W : World) (hb : base ≤ W.heap.size) : TR enc e base (W.alloc (.cells #[] e)) (.slice (some ⟨W.heap.size, 0, none⟩) 0 0) [] := ⟨_, 0, rfl, Nat.le_refl _, fun h => absurd h (Nat.lt_irrefl _)⟩
theorem TR.keep (h : TR enc e base W v xs) (hk : ∀ g, blkOf v = some g → base ≤ g → g < W.heap.size → W2.heap[g]? = W.heap[g]?) : TR enc e base W2 v xs := by
  obtain ⟨A, cap, rfl, hl, hc⟩ := h
  refine ⟨A, cap, rfl, hl, fun h0 => ?_⟩
  obtain ⟨g, off, rfl, hb, cells, h1, h2, h3⟩ := hc h0
  exact ⟨g, off, rfl, hb, cells, (hk g rfl hb (blk_lt h1)).trans h1, h2, h3⟩
theorem TR.below (h : TR enc e base W v xs) (hb : Below W.heap.size W W2) : TR enc e base W2 v xs := h.keep fun g _ _ hlt => hb.block g hlt
theorem TR.cell (h : TR enc e base W v xs) (j : Nat) (hj : j < xs.length) : ∃ g off cap, v = .slice (some ⟨g, off, none⟩) xs.length cap ∧ W.cell? ⟨g, off + j, none⟩ = some (enc xs[j]) := by
  obtain ⟨A, cap, rfl, hl, hc⟩ := h
  obtain ⟨g, off, rfl, hb, cells, h1, h2, h3⟩ := hc (by omega)
  exact ⟨g, off, cap, rfl, (blk_cell h1 _).trans (h3 j hj)⟩
theorem TR.drop {A : Option Addr} {n cap : Nat} (h : TR enc e base W (.slice A n cap) xs) (k : Nat) (hk : k ≤ xs.length) : TR enc e base W (.slice (if cap = k then A else A.map (·.add k)) (n - k) (cap - k)) (xs.drop k) := by
  obtain ⟨A2, cap2, he, hl, hc⟩ := h
  injection he with e1 e2 e3
  subst e1 e2 e3
  refine ⟨_, cap - k, by rw [List.length_drop], by rw [List.length_drop]; omega, fun h0 => ?_⟩
  obtain ⟨g, off, rfl, hb, cells, h1, h2, h3⟩ := hc (by omega)
  rw [if_neg (by omega)]
  refine ⟨g, off + k, by simp [Addr.add], hb, cells, h1, by omega, fun j hj => ?_⟩
  rw [List.length_drop] at hj
  rw [List.getElem_drop, Nat.add_assoc]
  exact h3 (k + j) (by omega)
theorem TR.take {A : Option Addr} {n cap : Nat} (h : TR enc e base W (.slice A n cap) xs) (k : Nat) (hk : k ≤ xs.length) : TR enc e base W (.slice A k k) (xs.take k) := by
  obtain ⟨A2, cap2, he, hl, hc⟩ := h
  injection he with e1 e2 e3
  subst e1 e2 e3
  have hlen : (xs.take k).length = k := by rw [List.length_take]; omega
  refine ⟨A, k, by rw [hlen], by rw [hlen]; exact Nat.le_refl _, fun h0 => ?_⟩
  obtain ⟨g, off, rfl, hb, cells, h1, h2, h3⟩ := hc (by omega)
  refine ⟨g, off, rfl, hb, cells, h1, by omega, fun j hj => ?_⟩
  rw [hlen] at hj
  rw [List.getElem_take]
  exact h3 j (by omega)
end
section
variable {P : Program} {ops : Array Oper} {rest : List Oper} {o : Oper} {a : Act} {Q : Exit → Act → World → Prop} {α : Type} {enc : α → Value}
theorem setsz (w : World) (q : Addr) (u : Value) : (w.setCell q u).heap.size = w.heap.size := by simp [World.setCell]
theorem TR.append (h1 : ∀ x, (enc x).oneCell' = true) {w0 W : World} (base : Nat) (hgd : o.guard = none) (s x : Operand) (t e : TypeId) (z : Value) (bytes : Nat)
    (ho : o.op = .call { callee := .builtin .append, args := #[s, x], argTypes := #[t, t] })
    (ht : P.underlying t = some (.slice e)) (hinfo : (P.info? e).map (fun i => (i.zero, i.size, i.bytes)) = some (some z, 1, bytes)) (hz : z.cells.size = 1) (hb0 : 0 < bytes)
    (v : Value) (xs : List α) (p : α) (hs : a.eval s = v) (hx : a.eval x = .slice (some ⟨W.heap.size, 0, none⟩) 1 1)
    (HT : TR enc e base W v xs) (HB : Below base w0 W) (hbase : base ≤ W.heap.size) (hl : (xs.length + 1) * bytes ≤ 140737488355328)
    (h : ∀ v1 w1, TR enc e base w1 v1 (xs ++ [p]) → Below base w0 w1 → W.grownBy w1 (blkOf v) → (blkOf v1 = blkOf v ∨ ∃ b, blkOf v1 = some b ∧ W.heap.size ≤ b) → wpList P ops Q rest (a.put o.dst v1) w1) :
    wpList P ops Q (o :: rest) a (W.alloc (.cells #[enc p] e)) := by
  obtain ⟨i0, hi, hzz⟩ := Option.map_eq_some_iff.1 hinfo
  simp only [Prod.mk.injEq] at hzz
  obtain ⟨hz0, hz1, hz2⟩ := hzz
  have hlen : xs.length + 1 ≤ 140737488355328 := Nat.le_trans (Nat.le_mul_of_pos_right _ hb0) hl
  obtain ⟨A, cap, rfl, hlc, hc⟩ := HT
  have hnew : (W.alloc (.cells #[enc p] e)).heap[W.heap.size]? = some (.cells #[enc p] e (0, 0)) := heap_alloc_new W _
  have hold : ∀ k, k < W.heap.size → (W.alloc (.cells #[enc p] e)).heap[k]? = W.heap[k]? := fun k hk => heap_alloc_old W _ hk
  have hsrc : Src P i0.size t (.slice (some ⟨W.heap.size, 0, none⟩) 1 1) 1 [enc p] (W.alloc (.cells #[enc p] e)) :=
    Src.ofSlice _ ht _ 1 1 [enc p] (by rw [hz1]; rfl) (by
      intro j u hj
      have := World.news_of_block (cs := #[enc p]) (t := e) (fr := (0, 0)) hnew j u (by simpa using hj)
      exact this) (fun u hu => by rw [List.mem_singleton.1 hu]; exact h1 p)
  have go : ∀ v1 w1, (Builtin.append_ #[t, t] o.type #[.slice A xs.length cap, .slice (some ⟨W.heap.size, 0, none⟩) 1 1]).run P (W.alloc (.cells #[enc p] e)) = .ok v1 w1 → wpList P ops Q rest (a.put o.dst v1) w1 → wpList P ops Q (o :: rest) a (W.alloc (.cells #[enc p] e)) := by
    intro v1 w1 hr hw
    refine wpList_plain hgd fun K hK => ?_
    unfold Oper.wp execOp
    simp only [ho, resolve, invoke, builtin, Sem.run_bind, Sem.run_pure, Result.andThen_ok, List.map_toArray, List.map_cons, List.map_nil, hs, hx, hr]
    exact hK _ _ hw
  by_cases hroom : xs.length + 1 ≤ cap
  · obtain ⟨g, off, rfl, hb, cells, c1, c2, c3⟩ := hc (by omega)
    have hgl := blk_lt c1
    have cA : (W.alloc (.cells #[enc p] e)).heap[g]? = some (.cells cells e (0, 0)) := (hold g hgl).trans c1
    have hr := run_append_room_src (P := P) (W.alloc (.cells #[enc p] e)) t t o.type e i0 ht hi g off xs.length cap _ 1 [enc p] hsrc hroom (fun j hj => by
      have hj0 : j = 0 := by simpa using hj
      subst hj0
      rw [hz1, blk_cell cA]
      simp only [Nat.mul_one, Nat.add_zero]
      rw [Array.getElem?_eq_getElem (by omega)]
      rfl) (fun j hj => blk_frozen cA _)
    refine go _ _ hr (h _ _ ?_ ?_ ?_ (.inl rfl))
    · have hset : ((W.alloc (.cells #[enc p] e)).setCells g (off + xs.length * i0.size) [enc p]).heap[g]? = some (.cells (cells.setIfInBounds (off + xs.length) (enc p)) e (0, 0)) := by
        rw [hz1, Nat.mul_one]
        exact blk_set cA _ _
      refine ⟨some ⟨g, off, none⟩, cap, by rw [List.length_append]; rfl, by rw [List.length_append]; exact hroom, fun _ => ⟨g, off, rfl, hb, _, hset, by rw [Array.size_setIfInBounds]; exact c2, fun j hj => ?_⟩⟩
      rw [List.length_append] at hj
      by_cases hjl : j < xs.length
      · rw [Array.getElem?_setIfInBounds_ne (by omega), List.getElem_append_left hjl]
        exact c3 j hjl
      · have hje : j = xs.length := by have : j < xs.length + 1 := hj; omega
        subst hje
        rw [Array.getElem?_setIfInBounds_self_of_lt (by omega), List.getElem_append_right (Nat.le_refl _)]
        simp
    · exact (HB.alloc hbase _).trans ⟨rfl, rfl, rfl, by show _ ≤ ((W.alloc (.cells #[enc p] e)).setCell _ _).heap.size; rw [setsz]; exact Nat.le_refl _, fun k hk => Below.heap_setCell _ _ _ k (show k ≠ g by omega)⟩
    · exact ⟨rfl, rfl, rfl, by
        show W.heap.size ≤ ((W.alloc (.cells #[enc p] e)).setCell _ _).heap.size
        rw [setsz, World.size_alloc]
        exact Nat.le_succ _, fun k hk hne => by
        have hkg : k ≠ g := fun e => hne (by rw [e]; rfl)
        exact (Below.heap_setCell _ _ _ k hkg).trans (hold k hk)⟩
  · have hcx : cap = xs.length := by omega
    have hfc : (Builtin.firstCells i0.size xs.length (.slice A xs.length cap)).run P (W.alloc (.cells #[enc p] e)).drew = .ok (xs.map enc).toArray (W.alloc (.cells #[enc p] e)).drew := by
      by_cases h0 : 0 < cap
      · obtain ⟨g, off, rfl, hb, cells, c1, c2, c3⟩ := hc h0
        have cA : ((W.alloc (.cells #[enc p] e)).drew).heap[g]? = some (.cells cells e (0, 0)) := (hold g (blk_lt c1)).trans c1
        refine run_firstCells_some _ i0.size xs.length _ _ _ (xs.map enc) (by rw [List.length_map, hz1, Nat.mul_one]) (fun j u hj => ?_)
        rw [List.getElem?_map] at hj
        by_cases hjl : j < xs.length
        · rw [List.getElem?_eq_getElem hjl] at hj
          injection hj with hj
          subst hj
          have q := (blk_cell cA (off + j)).trans (c3 j hjl)
          rw [Addr.add_lit]
          exact q
        · rw [List.getElem?_eq_none (by omega)] at hj
          cases hj
      · have hx0 : xs = [] := List.eq_nil_of_length_eq_zero (by omega)
        subst hx0
        cases A with
        | none => exact run_firstCells_none _ _ _ _ _
        | some ad => exact run_firstCells_some _ i0.size 0 ad _ _ [] (by simp) (fun j u hj => by simp at hj)
    have hr := run_append_grow_src (P := P) (W.alloc (.cells #[enc p] e)) t t o.type e i0 z ht hi hz0 A xs.length cap (xs.map enc) hfc _ 1 [enc p] hsrc (by omega) (by omega) (growslice_fits (by omega) (by rw [hz2]; exact hl))
    have hsz1 : (W.alloc (.cells #[enc p] e)).heap.size = W.heap.size + 1 := World.size_alloc _ _
    have hge := grownCap_ge (W.alloc (.cells #[enc p] e)) (xs.length + 1) cap e
    refine go _ _ hr (h _ _ ?_ ?_ ?_ (.inr ⟨_, rfl, by rw [hsz1]; exact Nat.le_succ _⟩))
    · refine ⟨_, _, by rw [List.length_append]; rfl, by rw [List.length_append]; exact hge, fun _ => ⟨_, 0, rfl, by show base ≤ (W.alloc (.cells #[enc p] e)).heap.size; omega, _, heap_alloc_new (W.alloc (.cells #[enc p] e)).drew _, ?_, fun j hj => ?_⟩⟩
      · rw [Array.size_append, size_zeroCells, hz, List.size_toArray, List.length_append, List.length_map]
        show 0 + _ ≤ xs.length + 1 + _
        omega
      · rw [List.length_append] at hj
        have hj2 : j < xs.length + 1 := hj
        rw [Nat.zero_add, Array.getElem?_append_left (by rw [List.size_toArray, List.length_append, List.length_map]; exact hj2), List.getElem?_toArray, ← List.map_singleton (f := enc), ← List.map_append, List.getElem?_map, List.getElem?_eq_getElem (by rw [List.length_append]; exact hj2)]
        rfl
    · exact ((HB.alloc hbase _).drew).alloc (by show base ≤ (W.alloc (.cells #[enc p] e)).heap.size; omega) _
    · exact ⟨rfl, rfl, rfl, by
        have := (below_alloc (Below.refl W.heap.size W) (.cells #[enc p] e)).size
        have h2 := (below_alloc (Below.refl (W.alloc (.cells #[enc p] e)).drew.heap.size (W.alloc (.cells #[enc p] e)).drew) (.cells (((xs.map enc) ++ [enc p]).toArray ++ Builtin.zeroCells z.cells (grownCap (W.alloc (.cells #[enc p] e)) (xs.length + 1) cap e - (xs.length + 1))) e)).size
        exact Nat.le_trans this h2, fun k hk _ => (heap_alloc_old (W.alloc (.cells #[enc p] e)).drew _ (by show k < (W.alloc (.cells #[enc p] e)).heap.size; omega)).trans (hold k hk)⟩
end
end Go.Proofs.Ytihmfccpgahmaaa.Tl

namespace Go.Proofs.Ytihmfccpgahmaaa.Wal
open Go Go.RowKit Go.Proofs.Ytihmfccpgahmaaa.Rng
open Go.Proofs.YtihmfccpgahmaaaW.PrintWords hiding Kept Kept.refl
open Go.Proofs.YtihmfccpgahmaaaW.PrintMore Go.Proofs.YtihmfccpgahmaaaW.PrintLast Go.Proofs.Ytihmfccpgahmaaa.Dk Go.Proofs.Ytihmfccpgahmaaa.Q Go.Proofs.Ytihmfccpgahmaaa.Str Go.Proofs.Ytihmfccpgahmaaa.Leb Go.Proofs.Ytihmfccpgahmaaa.Tl
set_option linter.unusedVariables false
set_option linter.unusedSimpArgs false
section
variable {P : Program} {md : Region.Mode} {ops : Array Oper} {Q : Exit → Act → World → Prop} {l n : Nat}
theorem oper_in {o : Oper} {a : Act} {w : World} {next : Act → World → Prop} (hd : ∀ c : Call, o.op ≠ Op.defer c) (h : o.wp P a w next Q) : o.wpIn (Fence.wide.inRound l) n P a w next Q := by
  refine ⟨fun _ _ => trivial, ?_⟩
  rw [Oper.semAt_plain (Fence.wide.inRound l) _ _ hd]
  unfold Oper.wp at h
  generalize (execOp a.eval o).run P w = r at h ⊢
  cases r with
  | ok x w' =>
    cases x with
    | value v => exact h
    | skip => exact h
    | defer d => exact h
    | enter f args => exact ⟨fun q => (by cases q), (callsIn_wide (n := n - 1)).2 h⟩
    | row r args => exact ⟨fun q => (by cases q), fun c cs _ => let ⟨v, w2, q1, q2⟩ := h c cs; ⟨v, w2, q1, stepsIn_wide.2 q2⟩⟩
    | _ => exact h.elim
  | halt x w' =>
    cases x with
    | panic v => exact h
    | _ => exact h.elim
theorem any_in (hd : ∀ (i : Nat) (o : Oper), ops[i]? = some o → ∀ c : Call, o.op ≠ Op.defer c) (hQ : ¬ LetsOut Q) : ∀ (fuel : Nat) (listed : Array Bool) (a : Act) (w : World), wpAny P md ops Q fuel listed a w → wpAnyIn (Fence.wide.inRound l) n P md ops Q fuel listed a w
  | 0, _, _, _, h => h
  | fuel + 1, listed, a, w, h => by
    refine ⟨h.1, fun i hi => ?_⟩
    have h2 := wpOp_mono (fun a' w' q => any_in hd hQ fuel (listed.setIfInBounds i true) a' w' q) (h.2 i hi)
    unfold wpOp at h2
    unfold wpOpIn
    cases ho : ops[i]? with
    | none => rw [ho] at h2; exact h2
    | some o =>
      rw [ho] at h2
      dsimp only at h2 ⊢
      split
      · rename_i hw
        rw [if_pos hw] at h2
        have h3 := h2.resolve_right (fun q => hQ q.2)
        exact oper_in (hd i o ho) h3
      · rename_i hw
        rw [if_neg hw] at h2
        exact ⟨fun _ _ => trivial, h2⟩
theorem startIn_ {ds : List Nat} {S : World → Prop} {id m : Nat} {a : Act} {w : World} (hd : ∀ (i : Nat) (o : Oper), ops[i]? = some o → ∀ c : Call, o.op ≠ Op.defer c) (hQ : ¬ LetsOut Q) (lb : Array Bool) (hm : P.follows .mixedOrders = true) (hn : ops.size = m) (hl : Array.replicate m false = lb) (hS : S w.drew)
    (h : S w.drew → wpAnyLast P .any ops Q S ds m lb a w.drew) : (Code.region id ops true).wpIn (Fence.wide.inRound l) n P Q a w := by
  subst hn
  subst hl
  exact wpIn_region_any hm (any_in hd hQ _ _ _ _ (wpAny_of_last _ _ _ _ (h hS)))
end
theorem lastL_ge {R : Int → Part} {z : Int} : ∀ {es : List (Int × List Int)} {a lf : Int}, Ents R a lf es z → lf ≤ lastL lf es
  | [], _, _, _ => Int.le_refl _
  | x :: t, a, lf, h => Int.le_trans h.2.1 (lastL_ge h.2.2.2)
/-- From the k-th entry on. -/
theorem LI.alls_from {M : DA} {N c : Nat} {L : LA} {es : List (Int × List Int)} (h : LI N c L M [] es) (hc : c ≤ 1000000) (k : Nat) : L.alls M (L.start + szs (es.take k)) = numb (L.start + szs (es.take k)) (es.drop k) := by
  have he := h.ents hc
  rw [List.nil_append] at he
  obtain ⟨h1, h2⟩ := Ents.split es L.start L.floor k he
  exact alls_ents h.C.nr (h2.weak (Int.le_trans h.C.o0 (lastL_ge h1)))
end Go.Proofs.Ytihmfccpgahmaaa.Wal

namespace Go.Proofs.Ytihmfccpgahmaaa.Wal
open Go Go.RowKit Go.Proofs.Ytihmfccpgahmaaa.Rng
open Go.Proofs.YtihmfccpgahmaaaW.PrintWords hiding Kept Kept.refl
open Go.Proofs.YtihmfccpgahmaaaW.PrintMore Go.Proofs.YtihmfccpgahmaaaW.PrintLast Go.Proofs.Ytihmfccpgahmaaa.Dk Go.Proofs.Ytihmfccpgahmaaa.Q Go.Proofs.Ytihmfccpgahmaaa.Str Go.Proofs.Ytihmfccpgahmaaa.Leb Go.Proofs.Ytihmfccpgahmaaa.Tl
set_option linter.unusedVariables false
set_option linter.unusedSimpArgs false
attribute [local go_sem] Oper.semAt_some
theorem infoTU' : (Try.prog.info? 55).map (fun i => (i.zero, i.size, i.bytes)) = some (some (.int .u64 0), 1, 8) := by kernel_rfl
theorem TR.lt' {W : World} {α : Type} {enc : α → Value} {e base : Nat} {v : Value} {xs : List α} (h : TR enc e base W v xs) (hx : 0 < xs.length) (j : Nat) (hj : blkOf v = some j) : j < W.heap.size := by
  obtain ⟨A, cap, rfl, hl, hc⟩ := h
  obtain ⟨g, off, rfl, hb, cells, h1, _⟩ := hc (by omega)
  have h2 : g = j := by simpa [blkOf] using hj
  rw [← h2]
  exact blk_lt h1
theorem no_defer {ops : Array Oper} (h : ops.all (fun o => match o.op with | .defer _ => false | _ => true) = true) : ∀ (i : Nat) (o : Oper), ops[i]? = some o → ∀ c : Call, o.op ≠ Op.defer c := by
  intro i o ho c e
  obtain ⟨hlt, rfl⟩ := Array.getElem?_eq_some_iff.1 ho
  have h2 := Array.all_eq_true.1 h i hlt
  rw [e] at h2
  cases h2
theorem ats_drop' (es : List (Int × List Int)) (a : Int) (k : Nat) (hk : k ≤ es.length) : ats (a + szs (es.take k)) (es.drop k) = (ats a es).drop k := by
  induction es generalizing a k with
  | nil => rw [List.drop_nil]; show [] = List.drop k []; rw [List.drop_nil]
  | cons x t ih =>
    cases k with
    | zero => show ats (a + 0) (x :: t) = ats a (x :: t); rw [Int.add_zero]
    | succ k =>
      have := ih (a + needN x.2.length) k (by simpa using hk)
      show ats (a + (needN x.2.length + szs (t.take k))) (t.drop k) = (ats (a + needN x.2.length) t).drop k
      rw [← Int.add_assoc]
      exact this
theorem numb_snd : ∀ (es : List (Int × List Int)) (a : Int), (numb a es).map Prod.snd = es.map Prod.snd
  | [], _ => rfl
  | x :: t, a => congrArg (x.2 :: ·) (numb_snd t _)
theorem numb_len (es : List (Int × List Int)) (a : Int) : (numb a es).length = es.length := by
  have := congrArg List.length (numb_snd es a)
  rwa [List.length_map, List.length_map] at this
/-- What comes behind the first ones. -/
theorem numb_at {es : List (Int × List Int)} {k : Nat} {Y : Int} (hk : k ≤ es.length) (hY : Y = szs (es.take k)) {q : List (Int × List Int)} {x : Int × List Int} (h : (q ++ [x]) <+: numb Y (es.drop k)) :
    k + q.length < es.length ∧ (ats 0 es)[k + q.length]? = some x.1 ∧ (es.map Prod.snd)[k + q.length]? = some x.2 := by
  obtain ⟨t, ht⟩ := h
  have h1 : (numb Y (es.drop k))[q.length]? = some x := by rw [← ht]; simp
  have h2 : ((numb Y (es.drop k)).map fun x => x.1)[q.length]? = some x.1 := by rw [List.getElem?_map, h1]; rfl
  have h3 : ((numb Y (es.drop k)).map Prod.snd)[q.length]? = some x.2 := by rw [List.getElem?_map, h1]; rfl
  have h4 := ats_drop' es 0 k hk
  rw [Int.zero_add, ← hY] at h4
  have h5 : (ats Y (es.drop k))[q.length]? = some x.1 := h2
  rw [h4, List.getElem?_drop] at h5
  rw [numb_snd, List.map_drop, List.getElem?_drop] at h3
  refine ⟨?_, h5, h3⟩
  have := (List.getElem?_eq_some_iff.1 h3).1
  rwa [List.length_map] at this
/-- The boxes of the law's own variables, its row, and the log. -/
structure Al (w W : World) (k3 k10 p g : Nat) (S : Nat → Prop) (c : Nat) (L : LA) (M : DA) (ws : List (Int × List Int)) (v sv st : Value) : Prop where
  l : Wl w W p g S 100 c L M [] ws
  b3 : Boxed W k3 66 sv
  b5 : Boxed W (k3 + 1) 3 st
  b6 : Boxed W (k3 + 1 + 1) 4 (.bool false)
  b10 : Boxed W k10 62 v
  r : TR (Value.int .u64) 55 w.heap.size W v (ats 0 ws)
  ns : ∀ k, (k = k3 ∨ k = k3 + 1 ∨ k = k3 + 1 + 1 ∨ k = k10 ∨ blkOf v = some k) → ¬ S k ∧ k ≠ p ∧ k < W.heap.size
  nk : ∀ k, blkOf v = some k → k ≠ k3 ∧ k ≠ k3 + 1 ∧ k ≠ k3 + 1 + 1 ∧ k ≠ k10
  kk : k3 + 1 + 1 < k10
  kw : w.heap.size ≤ k3
  x : L.start = 0 ∧ L.life = 1 ∧ L.fr = 0 ∧ L.ring = 98 ∧ L.next = szs ws
section
variable {w W W2 : World} {k3 k10 p g c c' : Nat} {S S' T : Nat → Prop} {L L' : LA} {M M' : DA} {ws ws' : List (Int × List Int)} {v sv st : Value}
/-- What is kept but the log's blocks; the log is told anew, the row is as it was. -/
theorem Al.log (h : Al w W k3 k10 p g S c L M ws v sv st) (hk : Kept W W2 (fun k => S k ∨ k = p)) (hS : ∀ k, S' k → S k ∨ W.heap.size ≤ k) (hl : Wl w W2 p g S' 100 c' L' M' [] ws') :
    Wl w W2 p g S' 100 c' L' M' [] ws' ∧ Boxed W2 k3 66 sv ∧ Boxed W2 (k3 + 1) 3 st ∧ Boxed W2 (k3 + 1 + 1) 4 (.bool false) ∧ Boxed W2 k10 62 v ∧ TR (Value.int .u64) 55 w.heap.size W2 v (ats 0 ws) ∧ ∀ k, (k = k3 ∨ k = k3 + 1 ∨ k = k3 + 1 + 1 ∨ k = k10 ∨ blkOf v = some k) → ¬ S' k ∧ k ≠ p ∧ k < W2.heap.size := by
  have hb : ∀ k, (k = k3 ∨ k = k3 + 1 ∨ k = k3 + 1 + 1 ∨ k = k10 ∨ blkOf v = some k) → W2.heap[k]? = W.heap[k]? := fun k hq => by
    obtain ⟨h1, h2, h3⟩ := h.ns k hq
    exact hk.block k h3 (fun q => q.elim h1 h2)
  exact ⟨hl, (hb k3 (.inl rfl)).trans h.b3, (hb _ (.inr (.inl rfl))).trans h.b5, (hb _ (.inr (.inr (.inl rfl)))).trans h.b6, (hb _ (.inr (.inr (.inr (.inl rfl))))).trans h.b10, h.r.keep (fun k e _ _ => hb k (.inr (.inr (.inr (.inr e))))), fun k hq => by
    obtain ⟨h1, h2, h3⟩ := h.ns k hq
    exact ⟨fun q => (hS k q).elim h1 (fun q => by omega), h2, Nat.lt_of_lt_of_le h3 hk.size⟩⟩
theorem Al.below (h : Al w W k3 k10 p g S c L M ws v sv st) (hb : Below W.heap.size W W2) : Al w W2 k3 k10 p g S c L M ws v sv st := by
  obtain ⟨h1, h2, h3, h4, h5, h6, h7⟩ := h.log (Kept.of_below hb _) (fun k q => .inl q) (h.l.below hb)
  exact ⟨h1, h2, h3, h4, h5, h6, h7, h.nk, h.kk, h.kw, h.x⟩
theorem Wl.keep {N : Nat} {es ws : List (Int × List Int)} (h : Wl w W p g S N c L M es ws) (hk : Kept W W2 T) (hT : ∀ k, T k → ¬ S k ∧ k ≠ p) (hB : Below w.heap.size w W2) : Wl w W2 p g S N c L M es ws :=
  ⟨⟨⟨h.G.D.I.step hk.size (fun k hs hlt => hk.block k hlt (fun q => (hT k q).1 hs)), hB⟩, (hk.block p h.G.lt (fun q => (hT p q).2 rfl)).trans h.G.B, h.G.P, h.G.N⟩, h.I⟩
/-- The law's row grew, and its box holds it. -/
theorem Al.app {v9 : Value} (hl : Wl w W p g S 100 c L M [] ws) (b3 : Boxed W k3 66 sv) (b5 : Boxed W (k3 + 1) 3 st) (b6 : Boxed W (k3 + 1 + 1) 4 (.bool false)) (b10 : Boxed W k10 62 v)
    (ns : ∀ k, (k = k3 ∨ k = k3 + 1 ∨ k = k3 + 1 + 1 ∨ k = k10 ∨ blkOf v = some k) → ¬ S k ∧ k ≠ p ∧ k < W.heap.size) (nk : ∀ k, blkOf v = some k → k ≠ k3 ∧ k ≠ k3 + 1 ∧ k ≠ k3 + 1 + 1 ∧ k ≠ k10) (kk : k3 + 1 + 1 < k10) (kw : w.heap.size ≤ k3) (x : L.start = 0 ∧ L.life = 1 ∧ L.fr = 0 ∧ L.ring = 98 ∧ L.next = szs ws)
    (ht : TR (Value.int .u64) 55 w.heap.size W2 v9 (ats 0 ws)) (hne : 0 < (ats 0 ws).length) (hB : Below w.heap.size w W2) (hg : W.grownBy W2 (blkOf v)) (hat : blkOf v9 = blkOf v ∨ ∃ b, blkOf v9 = some b ∧ W.heap.size ≤ b) : Al w (W2.setCell ⟨k10, 0, none⟩ v9) k3 k10 p g S c L M ws v9 sv st := by
  have hk : Kept W W2 (fun k => blkOf v = some k) := ⟨hg.size, fun k hlt hne => hg.block k hlt (fun q => hne q.symm), hg.os, hg.tape, hg.output⟩
  have hk2 : Kept W (W2.setCell ⟨k10, 0, none⟩ v9) (fun k => blkOf v = some k ∨ k = k10) := (hk.mono (fun k q => .inl q)).setCell (.inl (.inr rfl)) v9
  have hz : (W2.setCell ⟨k10, 0, none⟩ v9).heap.size = W2.heap.size := by simp [World.setCell]
  have hB2 : Below w.heap.size w (W2.setCell ⟨k10, 0, none⟩ v9) := below_set hB (by omega)
  have hst : ∀ k, (k = k3 ∨ k = k3 + 1 ∨ k = k3 + 1 + 1) → (W2.setCell ⟨k10, 0, none⟩ v9).heap[k]? = W.heap[k]? := fun k hq => hk2.block k (ns k (hq.elim .inl (fun q => .inr (q.elim .inl (fun q => .inr (.inl q)))))).2.2 (fun q => by
    rcases q with q | q
    · have := nk k q; omega
    · omega)
  have hb9 : ∀ k, blkOf v9 = some k → (¬ S k ∧ k ≠ p) ∧ k < W2.heap.size ∧ k ≠ k3 ∧ k ≠ k3 + 1 ∧ k ≠ k3 + 1 + 1 ∧ k ≠ k10 := fun k h => by
    have hlt := TR.lt' ht hne k h
    rcases hat with e | ⟨b, e, hb⟩
    · rw [e] at h
      exact ⟨⟨(ns k (.inr (.inr (.inr (.inr h))))).1, (ns k (.inr (.inr (.inr (.inr h))))).2.1⟩, hlt, nk k h⟩
    · rw [e] at h
      injection h with h
      subst h
      have h3 := (ns k3 (.inl rfl)).2.2
      have h10 := (ns k10 (.inr (.inr (.inr (.inl rfl))))).2.2
      have hp := hl.G.lt
      exact ⟨⟨fun q => by have := (hl.G.D.lt b q).2; omega, by omega⟩, hlt, by omega, by omega, by omega, by omega⟩
  refine { l := hl.keep hk2 (fun k q => ?_) hB2, b3 := (hst k3 (.inl rfl)).trans b3, b5 := (hst _ (.inr (.inl rfl))).trans b5, b6 := (hst _ (.inr (.inr rfl))).trans b6, b10 := ?_, r := ?_, ns := fun k hq => ?_, nk := fun k h => (hb9 k h).2.2, kk := kk, kw := kw, x := x }
  · rcases q with q | q
    · have h := ns k (.inr (.inr (.inr (.inr q)))); exact ⟨h.1, h.2.1⟩
    · have h := ns k (.inr (.inr (.inr (.inl q)))); exact ⟨h.1, h.2.1⟩
  · have h : Boxed W2 k10 62 v := (hg.block k10 b10.lt (fun q => by have := nk k10 q.symm; omega)).trans b10
    exact h.set v9
  · exact ht.keep fun k h _ _ => Below.heap_setCell W2 _ v9 k (show k ≠ k10 from (hb9 k h).2.2.2.2.2)
  · rw [hz]
    have hsz := hg.size
    rcases hq with h | h | h | h | h
    · have := ns k (.inl h); exact ⟨this.1, this.2.1, by omega⟩
    · have := ns k (.inr (.inl h)); exact ⟨this.1, this.2.1, by omega⟩
    · have := ns k (.inr (.inr (.inl h))); exact ⟨this.1, this.2.1, by omega⟩
    · have := ns k (.inr (.inr (.inr (.inl h)))); exact ⟨this.1, this.2.1, by omega⟩
    · have := hb9 k h; exact ⟨this.1.1, this.1.2, this.2.1⟩
end
namespace WalAlls
def wlall25.T25 : Bool × List (List Nat × List Nat) := (true, [([], []), ([], []), ([1], [1]), ([0, 2], [0, 2]), ([3], [3]), ([4], [4]), ([4], [4]), ([4], [4]), ([6, 7, 4], [4, 6, 7]), ([8, 4], [4, 8]), ([5, 9, 4], [4, 5, 9]), ([4, 10], [4, 10]), ([11, 4], [11]), ([12], [12]), ([13, 12], [12, 13]), ([12], [12]), ([12], [12]), ([15, 16, 12], [12, 15, 16]), ([17, 12], [12, 17]), ([18, 12], [12, 18]), ([12], [12]), ([19, 20, 12, 12], [12, 19, 20]), ([14, 21, 12], [12, 14, 21]), ([12, 22], [12, 22])])
def wlall25.B25 : List Nat := [0, 0, 2, 7, 15, 31, 31, 31, 223, 479, 1023, 2047, 4095, 8191, 16383, 8191, 8191, 106495, 237567, 499711, 8191, 2072575, 4194303, 8388607]
theorem wlall25.tab25 : rtab .any (opsOf Try.f12 25) = wlall25.T25 := by kernel_rfl
theorem wlall25.bits25 : waitsOk wlall25.T25.2 wlall25.B25 = true := by kernel_rfl
set_option maxRecDepth 100000 in
set_option maxHeartbeats 8000000 in
theorem law_in (A0 : Option Addr) (c0 : Nat) (sz : List Int) (fr0 st0 : Int) (w : World) (hcs : sz.length ≤ c0) (hCs : Kd.C (Kd.int .i64) w A0 sz.length sz) (hl12 : sz.length ≤ 12) (F stp : Nat) (hF : bits .and .i64 fr0 255 = (F : Int)) (hstp : bits .and .i64 st0 7 = (stp : Int)) (hs7 : stp ≤ 7) :
    CallsIn Fence.wide 4 Try.prog 12 #[.slice A0 sz.length c0, .int .i64 fr0, .int .i64 st0] w fun e w' => e = .returned (.bool true) ∧ Below w.heap.size w w' := by
  obtain ⟨L0, M0', hO, li0, x1, x2, x3, x4, x5, _⟩ := new_LI 100 100 (by decide) (by decide) (by decide)
  have y0 : DY (DA.new (newN 100).toNat) := new_DY _
  have w0 : (DA.new (newN 100).toNat).wait.length = 0 := rfl
  rw [show ((100 : Nat) : Int) = 100 from rfl] at hO
  obtain ⟨M0, hM0⟩ : ∃ M, M = DA.new (newN 100).toNat := ⟨_, rfl⟩
  rw [← hM0] at hO y0 w0
  have H0 := Aside0.mk (And.intro hM0 (And.intro hO (And.intro li0 (And.intro y0 w0))))
  have HX := Aside0.mk (show L0.start = 0 ∧ L0.life = 1 ∧ L0.fr = 0 ∧ L0.ring = 98 ∧ L0.next = 0 from by refine ⟨?_, ?_, ?_, ?_, ?_⟩ <;> omega)
  obtain ⟨n, hn⟩ : ∃ n, n = sz.length := ⟨_, rfl⟩
  have HN := Aside0.mk hn
  have HC := Aside0.mk hCs
  rw [← hn] at hcs hl12 ⊢
  have t0 : decide (12 < n) = false := decide_eq_false (by omega)
  have t1 : decide ((12 : Int) < (n : Int)) = false := decide_eq_false (by omega)
  clear hM0 hO li0 y0 w0 x1 x2 x3 x4 x5 hn hCs
  refine callsIn_of_wp_marks Try.func12 rfl trivial ?_ rfl
  simp only [Try.ntmps12, List.size_toArray, List.length_cons, List.length_nil, Nat.reduceAdd, Nat.reduceSub, Array.replicate_succ, Array.replicate_zero, List.push_toArray, List.append_toArray, List.nil_append, List.cons_append]
  refine wpIn_wide.2 ?_
  go_wp2_with fail
  have B0 := below_alloc (below_alloc (below_alloc (Below.refl w.heap.size w) (.cells #[.slice A0 n c0] 66)) (.cells #[.int .i64 st0] 3)) (.cells #[.bool false] 4)
  have z1 : (w.alloc (.cells #[.slice A0 n c0] 66)).heap.size = w.heap.size + 1 := World.size_alloc _ _
  have z2 : ((w.alloc (.cells #[.slice A0 n c0] 66)).alloc (.cells #[.int .i64 st0] 3)).heap.size = w.heap.size + 1 + 1 := by rw [World.size_alloc, z1]
  have q3 : Boxed (((w.alloc (.cells #[.slice A0 n c0] 66)).alloc (.cells #[.int .i64 st0] 3)).alloc (.cells #[.bool false] 4)) w.heap.size 66 (.slice A0 n c0) := ((Boxed.new w 66 (.slice A0 n c0)).alloc _).alloc _
  have q5 : Boxed (((w.alloc (.cells #[.slice A0 n c0] 66)).alloc (.cells #[.int .i64 st0] 3)).alloc (.cells #[.bool false] 4)) (w.heap.size + 1) 3 (.int .i64 st0) := by
    have h := (Boxed.new (w.alloc (.cells #[.slice A0 n c0] 66)) 3 (.int .i64 st0)).alloc (.cells #[.bool false] 4)
    rw [z1] at h; exact h
  have q6 : Boxed (((w.alloc (.cells #[.slice A0 n c0] 66)).alloc (.cells #[.int .i64 st0] 3)).alloc (.cells #[.bool false] 4)) (w.heap.size + 1 + 1) 4 (.bool false) := by
    have h := Boxed.new ((w.alloc (.cells #[.slice A0 n c0] 66)).alloc (.cells #[.int .i64 st0] 3)) 4 (.bool false)
    rw [z2] at h; exact h
  have HB := Aside0.mk (And.intro B0 (And.intro q3 (And.intro q5 q6)))
  clear B0 z1 z2 q3 q5 q6
  generalize (((w.alloc (.cells #[.slice A0 n c0] 66)).alloc (.cells #[.int .i64 st0] 3)).alloc (.cells #[.bool false] 4)) = w3 at HB ⊢
  obtain ⟨k3, hk3⟩ : ∃ k, k = w.heap.size := ⟨_, rfl⟩
  have HK3 := Aside0.mk hk3
  have HB3 := Aside0.mk (show Below w.heap.size w w3 ∧ Boxed w3 k3 66 (.slice A0 n c0) ∧ Boxed w3 (k3 + 1) 3 (.int .i64 st0) ∧ Boxed w3 (k3 + 1 + 1) 4 (.bool false) from by rw [hk3]; exact HB.out)
  rw [← hk3]
  clear HB hk3
  refine (head_ok _).mono ?_
  rintro e w4 ⟨rfl, hb⟩
  have HB4 := Aside0.mk (show Below w.heap.size w w4 ∧ Boxed w4 k3 66 (.slice A0 n c0) ∧ Boxed w4 (k3 + 1) 3 (.int .i64 st0) ∧ Boxed w4 (k3 + 1 + 1) 4 (.bool false) from ⟨below_step HB3.out.1 hb, (hb.block _ HB3.out.2.1.lt).trans HB3.out.2.1, (hb.block _ HB3.out.2.2.1.lt).trans HB3.out.2.2.1, (hb.block _ HB3.out.2.2.2.lt).trans HB3.out.2.2.2⟩)
  have c3 := HB4.out.2.1.cell
  clear hb HB3
  go_wp2_with fail
  refine (st_new (w0 := w) _ _ HB4.out.1).mono ?_
  rintro e w5 ⟨g, S, rfl, hi, hb, hs⟩
  rw [show DA.new (newN 100).toNat = M0 from H0.out.1.symm] at hi
  have HI := Aside0.mk hi
  have HB5 := Aside0.mk (show Boxed w5 k3 66 (.slice A0 n c0) ∧ Boxed w5 (k3 + 1) 3 (.int .i64 st0) ∧ Boxed w5 (k3 + 1 + 1) 4 (.bool false) from ⟨(hb.block _ HB4.out.2.1.lt).trans HB4.out.2.1, (hb.block _ HB4.out.2.2.1.lt).trans HB4.out.2.2.1, (hb.block _ HB4.out.2.2.2.lt).trans HB4.out.2.2.2⟩)
  have HS5 := Aside0.mk (show ∀ k, k ≤ k3 + 1 + 1 → ¬ S k from fun k hk hq => by have h1 := hs k hq; have h2 := HB4.out.2.2.2.lt; omega)
  clear hi hb hs c3 HB4
  go_wp2_with fail
  refine (wl_open HI.out H0.out.2.2.2.1 (by rw [H0.out.2.2.2.2]; decide) (by decide) (by decide) H0.out.2.1 H0.out.2.2.1).mono ?_
  rintro e w6 ⟨p, S6, rfl, hl, hp, hs, hk⟩
  have hB6 : ∀ k, k ≤ k3 + 1 + 1 → ¬ S6 k ∧ k ≠ p ∧ w6.heap[k]? = w5.heap[k]? ∧ k < w5.heap.size := fun k hk2 => by
    have h3 := HB5.out.2.2.lt
    exact ⟨fun q => (hs k q).elim (HS5.out k hk2) (fun q => by omega), by omega, hk.block k (by omega) (HS5.out k hk2), by omega⟩
  have hs65 : w5.heap.size ≤ w6.heap.size := hk.size
  have HL6 := Aside0.mk hl
  have hpl := hl.G.lt
  have b10 := below_alloc (below_alloc (Below.refl w6.heap.size w6) (.cells #[] 55)) (.cells #[.slice (some ⟨w6.heap.size, 0, none⟩) 0 0] 62)
  have z7 : (w6.alloc (.cells #[] 55)).heap.size = w6.heap.size + 1 := World.size_alloc _ _
  have z8 : ((w6.alloc (.cells #[] 55)).alloc (.cells #[.slice (some ⟨w6.heap.size, 0, none⟩) 0 0] 62)).heap.size = w6.heap.size + 1 + 1 := by rw [World.size_alloc, z7]
  have HA := Aside0.mk (show Al w ((w6.alloc (.cells #[] 55)).alloc (.cells #[.slice (some ⟨w6.heap.size, 0, none⟩) 0 0] 62)) k3 (w6.heap.size + 1) p g S6 1 L0 M0' [] (.slice (some ⟨w6.heap.size, 0, none⟩) 0 0) (.slice A0 n c0) (.int .i64 st0) from
    { l := hl.below b10
      b3 := (b10.block _ (by have := hB6 k3 (by omega); omega)).trans ((hB6 k3 (by omega)).2.2.1.trans HB5.out.1)
      b5 := (b10.block _ (by have := hB6 (k3 + 1) (by omega); omega)).trans ((hB6 (k3 + 1) (by omega)).2.2.1.trans HB5.out.2.1)
      b6 := (b10.block _ (by have := hB6 (k3 + 1 + 1) (by omega); omega)).trans ((hB6 (k3 + 1 + 1) (by omega)).2.2.1.trans HB5.out.2.2)
      b10 := by have h := Boxed.new (w6.alloc (.cells #[] 55)) 62 (.slice (some ⟨w6.heap.size, 0, none⟩) 0 0); rw [z7] at h; exact h
      r := ⟨_, 0, rfl, Nat.le_refl _, fun h => absurd h (Nat.lt_irrefl _)⟩
      ns := fun k hq => by
        rw [z8]
        have hin := hB6 k3 (by omega)
        rcases hq with h | h | h | h | h
        · subst h; exact ⟨hin.1, hin.2.1, by omega⟩
        · subst h; have h9 := hB6 (k3 + 1) (by omega); exact ⟨h9.1, h9.2.1, by omega⟩
        · subst h; have h9 := hB6 (k3 + 1 + 1) (by omega); exact ⟨h9.1, h9.2.1, by omega⟩
        · subst h; exact ⟨fun q => by have := (hl.G.D.lt _ q).2; omega, by omega, by omega⟩
        · have h2 : w6.heap.size = k := by simpa [blkOf] using h
          subst h2; exact ⟨fun q => by have := (hl.G.D.lt _ q).2; omega, by omega, by omega⟩
      nk := fun k h => by
        have h2 : w6.heap.size = k := by simpa [blkOf] using h
        have h9 := hB6 (k3 + 1 + 1) (by omega)
        omega
      kk := by have h9 := hB6 (k3 + 1 + 1) (by omega); omega
      kw := by have := HK3.out; omega
      x := HX.out })
  have c3 : w6.cell? ⟨k3, 0, none⟩ = some (.slice A0 n c0) := (show Boxed w6 k3 66 (.slice A0 n c0) from (hB6 k3 (by omega)).2.2.1.trans HB5.out.1).cell
  clear hl hp hs hk hB6 hs65 hpl b10 z7 z8 HI HB5 HS5 HL6
  go_upto_region 10 with fail
  have c3b := HA.out.b3.cell
  obtain ⟨k10, hk10⟩ : ∃ k, k = w6.heap.size + 1 := ⟨_, rfl⟩
  rw [← hk10] at HA ⊢
  generalize ((w6.alloc (.cells #[] 55)).alloc (.cells #[.slice (some ⟨w6.heap.size, 0, none⟩) 0 0] 62)) = w7 at HA c3b ⊢
  clear hk10 c3
  obtain ⟨v0, hv0⟩ : ∃ v, v = Value.slice (some ⟨w6.heap.size, 0, none⟩) 0 0 := ⟨_, rfl⟩
  rw [← hv0] at HA
  clear hv0
  obtain ⟨mf, hmf⟩ : ∃ mf : Nat → Nat, ∀ j, bits .and .i64 (sz.getD j 0) 1023 = (mf j : Int) ∧ mf j ≤ 1023 := ⟨fun j => (sz.getD j 0 % 1024).toNat, fun j => by rw [Bits.and_1023]; dsimp only; omega⟩
  obtain ⟨rf, hrf⟩ : ∃ rf : Nat → ByteArray, ∀ j : Nat, (rf j).size = mf j ∧ ∀ w : World, Calls Try.prog 41 #[.int .i64 (mf j : Int), .int .i64 (j : Int)] w fun e w' => e = .returned (.string (rf j)) ∧ Below w.heap.size w w' :=
    ⟨fun j => Classical.choose (bytes_v (mf j) (by have := (hmf j).2; omega) (j : Int)), fun j => Classical.choose_spec (bytes_v (mf j) (by have := (hmf j).2; omega) (j : Int))⟩
  have HMF := Aside0.mk hmf
  have HRF := Aside0.mk hrf
  have hszs := Aside0.mk (show ∀ j, j ≤ 12 → 0 ≤ szs ((List.range j).map fun i => ((1 : Int), bytesOf (rf i))) ∧ szs ((List.range j).map fun i => ((1 : Int), bytesOf (rf i))) ≤ 3 * j from fun j => by
    induction j with
    | zero => exact fun _ => ⟨Int.le_refl _, Int.le_refl _⟩
    | succ j ih =>
      intro hj
      have h1 := ih (by omega)
      rw [List.range_succ, List.map_append, szs_app]
      have h2 : szs (List.map (fun i => ((1 : Int), bytesOf (rf i))) [j]) = (needN (bytesOf (rf j)).length : Int) + 0 := rfl
      have h3 : (bytesOf (rf j)).length ≤ 1023 := by rw [bytesOf_length, (hrf j).1]; exact (hmf j).2
      have h4 : needN (bytesOf (rf j)).length ≤ 3 := by unfold needN; omega
      rw [h2]
      omega)
  clear hmf hrf
  go_wp2
  go_loopw [35] (fun i wr => ∃ j : Nat, j ≤ n ∧ i = .int .i64 j ∧ Aside0 (∃ S L M v, Al w wr k3 k10 p g S (1 + j) L M ((List.range j).map fun i => ((1 : Int), bytesOf (rf i))) v (.slice A0 n c0) (.int .i64 st0))) (fun i _ => n - (intOf i).toNat)
  case atStart => exact ⟨0, Nat.zero_le _, rfl, ⟨_, _, _, _, HA.out⟩⟩
  case round =>
    obtain ⟨j, hj, rfl, hR⟩ := hrel
    clear HA
    obtain ⟨S7, L, M, v, hal⟩ := hR.out
    have HA := Aside0.mk hal
    clear hR hal c3b
    by_cases hlt : j < n
    · have HJ := Aside0.mk hlt
      obtain ⟨ad, hA, hcl⟩ : ∃ ad, A0 = some ad ∧ wr.cell? (ad.add j) = some (.int .i64 (sz.getD j 0)) := by
        obtain ⟨ad, c, hA, hc1, hK, hc⟩ := Kd.C_get HC.out 0 (j : Int) (by omega) (by have := HN.out; omega)
        rw [Int.toNat_natCast] at hK hc
        have hK2 : c = [.int .i64 (sz.getD j 0)] := hK
        subst hK2
        have h := hc 0 _ rfl
        have h2 : w.cell? (ad.add j) = some (.int .i64 (sz.getD j 0)) := by have h3 : j * (Kd.int .i64).sz + 0 = j := by show j * 1 + 0 = j; omega
                                                                            rw [h3] at h; exact h
        exact ⟨ad, hA, (HA.out.l.G.D.B.cell (World.block_lt_of_cell? _ _ h2)).trans h2⟩
      subst hA
      have hm1 := (HMF.out j).1
      generalize sz.getD j 0 = sj at hcl hm1
      go_wp2_with fail
      refine ((HRF.out j).2 _).mono ?_
      rintro e wb ⟨rfl, hb⟩
      have HA1 := Aside0.mk (HA.out.below hb)
      clear hb hcl HA hm1
      obtain ⟨r, hr⟩ : ∃ r, r = rf j := ⟨_, rfl⟩
      have HR := Aside0.mk hr
      rw [← hr]
      have hrl : (bytesOf r).length ≤ 1023 := by rw [bytesOf_length, hr, (HRF.out j).1]; exact (HMF.out j).2
      have HRL := Aside0.mk hrl
      clear hr hrl
      have hcv := fun (W : World) => print_bytes (P := Try.prog) 9 22 5 Try.underlying9 Try.underlying22 Try.underlying5 r W
      go_wp2_with fail
      have hcap : (bytesOf r).length ≤ grownCap wb r.size 0 5 := by rw [bytesOf_length]; exact grownCap_ge _ _ _ _
      have hb2 := bytes_below (Below.refl wb.heap.size wb) (Nat.le_refl _) 5 r
      have HA2 := Aside0.mk (HA1.out.below hb2)
      have HCC := Aside0.mk (show ∀ W', Kept (Lib.bytesWorld wb 5 r) W' (fun k => S7 k ∨ k = p) → Kd.C (Kd.int .u8) W' (some ⟨wb.heap.size, 0, none⟩) (bytesOf r).length (bytesOf r) from
        fun W' hk2 => conv_C (by have := HRL.out; rw [bytesOf_length] at this; omega) (hk2.block _ (by rw [Lib.bytesWorld_size]; omega) (fun h => h.elim (fun h => by have := (HA1.out.l.G.D.lt _ h).2; omega) (fun h => by have := HA1.out.l.G.lt; omega))))
      refine (calls_of_args (args' := #[.pointer (some ⟨p, 0, none⟩), .slice (some ⟨wb.heap.size, 0, none⟩) (bytesOf r).length (grownCap wb r.size 0 5)]) (by rw [bytesOf_length]) (wl_append HA2.out.l (by omega) _ _ (bytesOf r) HCC.out hcap (byt_str r) (by have := HRL.out; omega) (by
        have h1 := HA2.out.x
        have h2 := hszs.out j (by have := HJ.out; omega)
        have h3 : needN (bytesOf r).length ≤ 3 := by have := HRL.out; unfold needN; omega
        unfold LA.free
        have := HJ.out
        omega))).mono ?_
      rintro e w8 ⟨rfl, S8, L8, M8, hl8, hx8, hs8, hk8⟩
      have HLG := Aside0.mk (HA2.out.log hk8 hs8 hl8)
      have HX8 := Aside0.mk hx8
      have c10 := HLG.out.2.2.2.2.1.cell
      have hB8 := hl8.G.D.B
      have HB8 := Aside0.mk hB8
      clear hcv hcap hb2 HCC HA1 hl8 hx8 hs8 hk8 hB8
      have hlj : ((ats 0 ((List.range j).map fun i => ((1 : Int), bytesOf (rf i)))).length + 1) * 8 ≤ 140737488355328 := by rw [ats_len, List.length_map, List.length_range]; have := HJ.out; omega
      have HT8 := Aside0.mk HLG.out.2.2.2.2.2.1
      have HK10 := Aside0.mk (show ∀ w9 : World, w8.grownBy w9 (blkOf v) → Boxed w9 k10 62 v from fun w9 hg => (hg.block k10 HLG.out.2.2.2.2.1.lt (fun q => by have := HA2.out.nk k10 q.symm; omega)).trans HLG.out.2.2.2.2.1)
      have HLJ := Aside0.mk hlj
      clear hlj
      go_upto_region 17 with (at_builtin; refine TR.append (enc := Value.int .u64) (fun _ => rfl) (w0 := w) w.heap.size rfl (.tmp 52) (.tmp 54) 62 55 (.int .u64 0) 8 rfl Try.underlying62 infoTU' rfl (by decide) v (ats 0 ((List.range j).map fun i => ((1 : Int), bytesOf (rf i)))) L.next rfl rfl HT8.out HB8.out HB8.out.size HLJ.out ?_; intro v9 w9 ht hB hg hat; have c10b := (HK10.out w9 hg).cell; have f10b := (HK10.out w9 hg).frozen; have HAP := Aside0.mk (And.intro ht (And.intro hB (And.intro hg hat))); clear hB hg hat c10; obtain ⟨A9, c9, e9, _⟩ := ht; rw [List.length_append, ats_len, List.length_map, List.length_range, List.length_singleton] at e9; subst e9)
      have HF := Aside0.mk (show Al w (w9.setCell ⟨k10, 0, none⟩ (.slice A9 (j + 1) c9)) k3 k10 p g S8 (1 + (j + 1)) L8 M8 ((List.range (j + 1)).map fun i => ((1 : Int), bytesOf (rf i))) (.slice A9 (j + 1) c9) (.slice (some ad) n c0) (.int .i64 st0) from by
        have hx := HA2.out.x
        have hx8 := HX8.out
        have e1 : ((List.range (j + 1)).map fun i => ((1 : Int), bytesOf (rf i))) = ((List.range j).map fun i => ((1 : Int), bytesOf (rf i))) ++ [(L.life, bytesOf r)] := by
          rw [List.range_succ, List.map_append, hx.2.1, HR.out]; rfl
        have e2 : ats 0 ((List.range (j + 1)).map fun i => ((1 : Int), bytesOf (rf i))) = ats 0 ((List.range j).map fun i => ((1 : Int), bytesOf (rf i))) ++ [L.next] := by
          rw [e1, ats_app, hx.2.2.2.2, Int.zero_add]; rfl
        have hl8 : Wl w w8 p g S8 100 (1 + (j + 1)) L8 M8 [] ((List.range (j + 1)).map fun i => ((1 : Int), bytesOf (rf i))) := by
          rw [e1]
          exact HLG.out.1
        refine Al.app (v := v) hl8 HLG.out.2.1 HLG.out.2.2.1 HLG.out.2.2.2.1 HLG.out.2.2.2.2.1 HLG.out.2.2.2.2.2.2 HA2.out.nk HA2.out.kk HA2.out.kw ⟨?_, ?_, ?_, ?_, ?_⟩ (by rw [e2]; exact HAP.out.1) (by rw [e2, List.length_append]; exact Nat.succ_pos _) HAP.out.2.1 HAP.out.2.2.1 HAP.out.2.2.2
        · omega
        · omega
        · omega
        · omega
        · rw [e1, szs_app]
          have h1 : szs [(L.life, bytesOf r)] = (needN (bytesOf r).length : Int) + 0 := rfl
          omega)
      have hsl := HJ.out
      go_wp2
      go_roundw
      case rel => exact ⟨j + 1, HJ.out, by go_num, ⟨_, _, _, _, HF.out⟩⟩
      case measure =>
        rw [show (j : Int) + 1 = ((j + 1 : Nat) : Int) from rfl]
        exact (show n - (j + 1) < n - j from Nat.sub_lt_sub_left HJ.out (Nat.lt_succ_self j))
    · have hjn : n = j := by omega
      subst hjn
      rcases Nat.eq_zero_or_pos n with hz | hpos
      · subst hz
        have c3 := HA.out.b3.cell
        have c6 := HA.out.b6.cell
        have f6 := HA.out.b6.frozen
        have HA6 := Aside0.mk HA.out.b6
        have HAB := Aside0.mk (And.intro HA.out.l.G.D.B HA.out.kw)
        clear HA
        go_wp2
        have hb3 := HA6.out.set (.bool true)
        have hB2 : Below w.heap.size w (wr.setCell ⟨k3 + 1 + 1, 0, none⟩ (.bool true)) := below_set HAB.out.1 (by have := HAB.out.2; omega)
        have hc3 := hb3.cell
        refine ⟨.bool true, ?_, rfl, hB2⟩
        clear hb3 hB2 c3 c6 f6
        simp [results, go_sem, hc3]
      have hne : ¬ ((n : Int) = 0) := by omega
      obtain ⟨es, hes⟩ : ∃ es, es = (List.range n).map fun i => ((1 : Int), bytesOf (rf i)) := ⟨_, rfl⟩
      rw [← hes] at HA
      have HES := Aside0.mk hes
      have hel : es.length = n := by rw [hes, List.length_map, List.length_range]
      obtain ⟨fr, hfr⟩ : ∃ fr, fr = F % n := ⟨_, rfl⟩
      have hfl : fr < n := by rw [hfr]; exact Nat.mod_lt _ hpos
      have hfi : (F : Int) % (n : Int) = (fr : Int) := by rw [hfr]; rfl
      have HFR := Aside0.mk (And.intro hel hfl)
      obtain ⟨g9, off9, cap9, rfl, hcl⟩ := HA.out.r.cell fr (by rw [ats_len]; omega)
      have hy : (ats 0 es)[fr]'(by rw [ats_len]; omega) = szs (es.take fr) := by
        have h := ats_get es 0 fr (by omega)
        rw [Int.zero_add] at h
        exact List.getElem_eq_iff _ |>.2 h
      rw [hy] at hcl
      obtain ⟨Y, hY⟩ : ∃ Y, Y = szs (es.take fr) := ⟨_, rfl⟩
      rw [← hY] at hcl
      have HY := Aside0.mk hY
      rw [ats_len, hel] at HA
      have c10 := (HA.out.b10.alloc (.cells #[.int .i64 (fr : Int)] 3)).cell
      have hcl2 := ((below_alloc (Below.refl wr.heap.size wr) (.cells #[.int .i64 (fr : Int)] 3)).cell (World.block_lt_of_cell? _ _ hcl)).trans hcl
      have c3 := HA.out.b3.cell
      have HW := Aside0.mk (below_alloc (Below.refl wr.heap.size wr) (.cells #[.int .i64 (fr : Int)] 3))
      clear hcl hfr hy hY hes hel
      go_wp2_with fail
      rw [hfi]
      refine (callsIn_wide.1 (all_c p Y _)).mono ?_
      rintro e w1 ⟨rfl, hq⟩
      have hb15 := Boxed.new wr 3 (.int .i64 (fr : Int))
      have hbx := Boxed.new (wr.alloc (.cells #[.int .i64 (fr : Int)] 3)) 52 (.pointer (some ⟨p, 0, none⟩))
      have hbb := Boxed.new ((wr.alloc (.cells #[.int .i64 (fr : Int)] 3)).alloc (.cells #[.pointer (some ⟨p, 0, none⟩)] 52)) 55 (.int .u64 Y)
      have h15 := (hb15.alloc (.cells #[.pointer (some ⟨p, 0, none⟩)] 52)).alloc (.cells #[.int .u64 Y] 55)
      have hbA := hbx.alloc (.cells #[.int .u64 Y] 55)
      rw [← hq] at h15 hbA hbb
      have hbw : Below wr.heap.size wr w1 := by rw [hq]; exact below_alloc (below_alloc HW.out _) _
      have hsz : w1.heap.size = wr.heap.size + 1 + 1 + 1 := by rw [hq, World.size_alloc, World.size_alloc, World.size_alloc]
      rw [World.size_alloc, World.size_alloc] at hbb
      rw [World.size_alloc] at hbA
      have HAL := Aside0.mk (HA.out.below hbw)
      have HLw := Aside0.mk (show (∀ k, S7 k → k < wr.heap.size) ∧ p < wr.heap.size ∧ w.heap.size ≤ wr.heap.size ∧ k3 + 1 + 1 < wr.heap.size ∧ k10 < wr.heap.size ∧ g9 < wr.heap.size from
        ⟨fun k hk => (HA.out.l.G.D.lt k hk).2, HA.out.l.G.lt, HA.out.l.G.D.B.size, (HA.out.ns _ (.inr (.inr (.inl rfl)))).2.2, (HA.out.ns _ (.inr (.inr (.inr (.inl rfl))))).2.2, (HA.out.ns g9 (.inr (.inr (.inr (.inr rfl))))).2.2⟩)
      have HW1 := Aside0.mk (show Below w.heap.size w w1 from HAL.out.l.G.D.B)
      obtain ⟨k15, hk15⟩ : ∃ k, k = wr.heap.size := ⟨_, rfl⟩
      rw [World.size_alloc]
      rw [← hk15] at h15 hbA hbb hsz HLw ⊢
      clear hcl2 c10 c3 HW HA hq hb15 hbx hbw hk15
      go_wp2_with fail
      refine (wpIn_wide (n := 4)).1 ?_
      have hYb : L.start ≤ Y ∧ Y ≤ L.next := by
        have h1 := szs_nn (es.take fr)
        have h2 := szs_nn (es.drop fr)
        have h3 := szs_app (es.take fr) (es.drop fr)
        rw [List.take_append_drop] at h3
        have h4 := HAL.out.x
        have h5 := HY.out
        omega
      have HSQ := all_s HAL.out.l.G (n0 := k15) HLw.out.2.2.1 (by omega) HLw.out.1 HLw.out.2.1 (HAL.out.l.I.ok (by omega)) HAL.out.l.I.C.Y Y hYb.1 hYb.2 (k15 + 1) (k15 + 1 + 1) hbA.cell hbb.cell
      have hT : L.alls M Y = numb Y (es.drop fr) := by
        have h := HAL.out.l.I.alls_from (by omega) fr
        rw [HAL.out.x.1, Int.zero_add, ← HY.out] at h
        exact h
      rw [hT] at HSQ
      obtain ⟨T, hTe⟩ : ∃ T, T = numb Y (es.drop fr) := ⟨_, rfl⟩
      rw [← hTe] at HSQ
      have HT := Aside0.mk hTe
      have hle1 : k15 + 1 ≤ w1.heap.size := by omega
      refine range_H (n := 4) rfl (by decide) (gf := 58) (lb := #[.pointer (some ⟨k15 + 1, 0, none⟩), .pointer (some ⟨k15 + 1 + 1, 0, none⟩)]) rfl trivial (enters_of Try.func58 (by kernel_rfl) rfl) HSQ
        (fun h k => h.trans k) (fun A l o o' hl ho hc => ⟨(Below.refl k15 A).grown (grownBy_putObj' A l o') (by have := (Array.getElem?_eq_some_iff.1 ho).1; omega) (fun k e => by cases e; omega), World.putObj_heap_other (by omega)⟩) (fun _ => rfl)
        (fun pre x A l o o' hx ho hc => ⟨ownsRow_putObj hx.1 o' ho hc, hx.2⟩)
        (fun (pre : List Item) W => Boxed W k15 3 (.int .i64 ((fr + pre.length : Nat) : Int)) ∧ Below k15 w1 W) (fun _ _ _ => False)
        (OwnFrom.and (Own.from (boxed_own _ _ _) _) (ownFrom_below (by omega) (by omega))) (fun _ _ _ _ _ hs _ _ => hs)
        ⟨h15, Below.refl _ _⟩ ?a1 ?assign ?body ?done ?stop
      case assign =>
        intro l x W K hK
        simp only [encs]
        gi_wp2
        exact hK
      case stop =>
        rintro D c pre W _ _ h _
        exact h.elim
      case body =>
        rintro l pre ⟨xn, xv, xb⟩ W ⟨hb15, hB⟩ ⟨hown, hpre⟩ hlt
        have hR := Kd.R_of_own (h1 := fun _ => rfl) (ok := fun _ => True) hown (fun _ _ => trivial)
        obtain ⟨xA, xc, hv, hl, hC⟩ := Kd.R_reads hR
        simp only at hv
        subst hv
        rw [HT.out] at hpre
        obtain ⟨i1, i2, i3⟩ := numb_at (by have := HFR.out; omega) HY.out (show (pre.map Item.e ++ [(xn, xb)]) <+: _ from hpre)
        rw [List.length_map, HFR.out.1] at i1
        rw [List.length_map] at i2 i3
        obtain ⟨i, hi⟩ : ∃ i, i = fr + pre.length := ⟨_, rfl⟩
        rw [← hi] at i1 i2 i3 hb15
        have hxb : xb = bytesOf (rf i) := by
          rw [HES.out, List.map_map, List.getElem?_map, List.getElem?_range i1] at i3
          exact (Option.some.inj i3).symm
        obtain ⟨ad, hA, hcs0⟩ : ∃ ad, A0 = some ad ∧ w.cell? (ad.add i) = some (.int .i64 (sz.getD i 0)) := by
          obtain ⟨ad, c, hA, hc1, hK, hc⟩ := Kd.C_get HC.out 0 (i : Int) (by omega) (by have := HN.out; omega)
          rw [Int.toNat_natCast] at hK hc
          have hK2 : c = [.int .i64 (sz.getD i 0)] := hK
          subst hK2
          have h := hc 0 _ rfl
          have h2 : w.cell? (ad.add i) = some (.int .i64 (sz.getD i 0)) := by
            have h3 : i * (Kd.int .i64).sz + 0 = i := by show i * 1 + 0 = i; omega
            rw [h3] at h; exact h
          exact ⟨ad, hA, h2⟩
        subst hA
        obtain ⟨gq, oq, cq, eq_, hcr⟩ := HAL.out.r.cell i (by rw [ats_len, HFR.out.1]; exact i1)
        rw [ats_len, HFR.out.1] at eq_
        injection eq_ with e1 _ e3
        injection e1 with e1
        injection e1 with e1 e2 _
        subst e1 e2
        rw [(List.getElem?_eq_some_iff.1 i2).2] at hcr
        have hst : ∀ (a : Addr) (v : Value), a.block < k15 → w1.cell? a = some v → W.cell? a = some v := fun a v h hc => by rw [← hc]; simp only [World.cell?, hB.block _ h]
        have HX15 := Aside0.mk hb15.cell
        have HX3 := Aside0.mk (hst _ _ (by show k3 < _; have := HLw.out; omega) HAL.out.b3.cell)
        have HX10 := Aside0.mk (hst _ _ HLw.out.2.2.2.2.1 HAL.out.b10.cell)
        have HX9 := Aside0.mk (hst _ _ HLw.out.2.2.2.2.2 hcr)
        have HXS := Aside0.mk (hst _ _ (Nat.lt_of_lt_of_le (World.block_lt_of_cell? _ _ hcs0) HLw.out.2.2.1) ((HW1.out.cell (World.block_lt_of_cell? _ _ hcs0)).trans hcs0))
        have HM := Aside0.mk (HMF.out i).1
        obtain ⟨m, hm⟩ : ∃ m, m = mf i := ⟨_, rfl⟩
        have HS := Aside0.mk (HRF.out i).2
        obtain ⟨s, hs⟩ : ∃ s, s = rf i := ⟨_, rfl⟩
        rw [← hm] at HM HS
        rw [← hs] at HS hxb
        have HCV := Aside0.mk (show ∀ W', Below W.heap.size W W' → (convert 22 9 (.slice xA xb.length xc)).run Try.prog W' = .ok (.string s) W' from fun W' hb => by
          have h := cv_all hC hb xc
          rw [h, hxb, str_bytesOf])
        generalize sz.getD i 0 = sj at HXS HM
        have HIN := Aside0.mk (show i < n ∧ decide ((n : Int) ≤ (i : Int)) = false ∧ i = fr + pre.length from ⟨i1, decide_eq_false (by omega), hi⟩)
        have HBB := Aside0.mk (And.intro hb15 (And.intro hB hlt))
        have HB := Aside0.mk (Below.refl W.heap.size W)
        have hf15 := hb15.frozen
        obtain ⟨wa, hwa⟩ : ∃ wa, wa = W := ⟨_, rfl⟩
        rw [← hwa] at HX15 HX3 HX10 HX9 HXS HCV HBB HB hf15 ⊢
        clear hwa hown hR hl hC hpre i1 i2 i3 hi hxb hcs0 hcr hst hm hs hb15 hB hlt e3
        gi_upto_region 25 with fail
        refine startIn_ (no_defer (by kernel_rfl)) (by rintro ⟨_, _, q_⟩; exact q_) (m := 24) (S := fun w' => True) (ds := []) #[false, false, false, false, false, false, false, false, false, false, false, false, false, false, false, false, false, false, false, false, false, false, false, false] (by kernel_rfl) rfl rfl trivial (fun hHeld => ?_)
        refine with_tabW wlall25.tab25 wlall25.bits25 (fun HT_ HW_ => ?_)
        have n0_ := Aside0.mk (below_drew HB.out)
        clear HB
        generalize World.drew _ = wd at n0_ hHeld ⊢
        have HB := n0_
        clear hHeld n0_
        refine inv_at [0, 1, 2, 3, 4, 5, 6, 7, 8, 9, 10, 11, 12, 13, 14, 15, 16, 17, 18, 19, 20, 21, 22, 23] (fun a0_ b a w' => a = putSel a0_ b [(0, 74, .int .i64 (i : Int)), (1, 75, .slice (some ad) n c0), (2, 76, .int .i64 (n : Int)), (3, 77, .bool false), (4, 78, .bool false), (5, 79, .int .u64 xn), (6, 80, .slice (some ⟨g9, off9, none⟩) n cap9), (7, 81, .int .i64 (i : Int)), (8, 82, .pointer (some ⟨g9, off9 + i, none⟩)), (9, 83, .int .u64 xn), (10, 84, .bool false), (11, 85, .bool false), (12, 86, .bool false), (13, 87, .slice xA xb.length xc), (14, 88, .string s), (15, 89, .slice (some ad) n c0), (16, 90, .int .i64 (i : Int)), (17, 91, .pointer (some (ad.add i))), (18, 92, .int .i64 sj), (19, 93, .int .i64 (m : Int)), (20, 94, .int .i64 (i : Int)), (21, 95, .string s), (22, 96, .bool false), (23, 97, .bool false)] ∧ (Below wa.heap.size wa w')) HT_.out HW_.out (by kernel_rfl) (by kernel_rfl) ?_ ?_ ?_
        · exact ⟨by simp only [putSel, Bool.false_eq_true, if_false], HB.out⟩
        · skip
          clear HB
          refine steps_cons ?_ ?_
          · rintro b a w' ⟨ha, Q_HB⟩ hb_ hon hoff
            refine ⟨_, rfl, fun K hK => ?_⟩
            have e15 : a.tmps[15]? = some (.pointer (some ⟨k15, 0, none⟩)) := by rw [ha]; exact (putSel_off rfl).trans rfl
            replace ha := Aside0.mk ha
            have HB := Aside0.mk Q_HB
            have c15_ : w'.cell? ⟨k15, 0, none⟩ = some (.int .i64 (i : Int)) := (HB.out.cell (World.block_lt_of_cell? _ _ HX15.out)).trans HX15.out
            refine value_ (w1 := w') (v := .int .i64 (i : Int)) (by rfl) rfl ?_ ?_
            · go_simp
              (try simp only [i64_w])
              try rfl
            refine hK.out _ _ ⟨(by rw [ha.out]; exact putSel_upk 0 hb_ rfl rfl rfl), Q_HB⟩
          refine steps_cons ?_ ?_
          · rintro b a w' ⟨ha, Q_HB⟩ hb_ hon hoff
            refine ⟨_, rfl, fun K hK => ?_⟩
            have e3 : a.tmps[3]? = some (.pointer (some ⟨k3, 0, none⟩)) := by rw [ha]; exact (putSel_off rfl).trans rfl
            replace ha := Aside0.mk ha
            have HB := Aside0.mk Q_HB
            have c3_ : w'.cell? ⟨k3, 0, none⟩ = some (.slice (some ad) n c0) := (HB.out.cell (World.block_lt_of_cell? _ _ HX3.out)).trans HX3.out
            refine value_ (w1 := w') (v := .slice (some ad) n c0) (by rfl) rfl ?_ ?_
            · go_simp
              (try simp only [i64_w])
              try rfl
            refine hK.out _ _ ⟨(by rw [ha.out]; exact putSel_upk 1 hb_ rfl rfl rfl), Q_HB⟩
          refine steps_cons ?_ ?_
          · rintro b a w' ⟨ha, Q_HB⟩ hb_ hon hoff
            refine ⟨_, rfl, fun K hK => ?_⟩
            have e75 : a.tmps[75]? = some (.slice (some ad) n c0) := by rw [ha]; exact putSel_on (e := (1, 75, .slice (some ad) n c0)) 1 rfl rfl (hon 1 (by kernel_rfl)) rfl
            replace ha := Aside0.mk ha
            have HB := Aside0.mk Q_HB
            refine value_ (w1 := w') (v := .int .i64 (n : Int)) (by rfl) rfl ?_ ?_
            · go_simp
              (try simp only [i64_w])
              try rfl
            refine hK.out _ _ ⟨(by rw [ha.out]; exact putSel_upk 2 hb_ rfl rfl rfl), Q_HB⟩
          refine steps_cons ?_ ?_
          · rintro b a w' ⟨ha, Q_HB⟩ hb_ hon hoff
            refine ⟨_, rfl, fun K hK => ?_⟩
            have e74 : a.tmps[74]? = some (.int .i64 (i : Int)) := by rw [ha]; exact putSel_on (e := (0, 74, .int .i64 (i : Int))) 0 rfl rfl (hon 0 (by kernel_rfl)) rfl
            have e76 : a.tmps[76]? = some (.int .i64 (n : Int)) := by rw [ha]; exact putSel_on (e := (2, 76, .int .i64 (n : Int))) 2 rfl rfl (hon 2 (by kernel_rfl)) rfl
            replace ha := Aside0.mk ha
            have HB := Aside0.mk Q_HB
            have t_ := HIN.out.1
            refine value_ (w1 := w') (v := .bool false) (by rfl) rfl ?_ ?_
            · go_simp
              (try simp only [i64_w])
              try rfl
            refine hK.out _ _ ⟨(by rw [ha.out]; exact putSel_upk 3 hb_ rfl rfl rfl), Q_HB⟩
          refine steps_cons ?_ ?_
          · rintro b a w' ⟨ha, Q_HB⟩ hb_ hon hoff
            refine ⟨_, rfl, fun K hK => ?_⟩
            have e77 : a.tmps[77]? = some (.bool false) := by rw [ha]; exact putSel_on (e := (3, 77, .bool false)) 3 rfl rfl (hon 3 (by kernel_rfl)) rfl
            replace ha := Aside0.mk ha
            have HB := Aside0.mk Q_HB
            refine value_ (w1 := w') (v := .bool false) (by rfl) rfl ?_ ?_
            · go_simp
              (try simp only [i64_w])
              try rfl
            refine hK.out _ _ ⟨(by rw [ha.out]; exact putSel_upk 4 hb_ rfl rfl rfl), Q_HB⟩
          refine steps_cons ?_ ?_
          · rintro b a w' ⟨ha, Q_HB⟩ hb_ hon hoff
            refine ⟨_, rfl, fun K hK => ?_⟩
            have e16 : a.tmps[16]? = some (.int .u64 xn) := by rw [ha]; exact (putSel_off rfl).trans rfl
            have e78 : a.tmps[78]? = some (.bool false) := by rw [ha]; exact putSel_on (e := (4, 78, .bool false)) 4 rfl rfl (hon 4 (by kernel_rfl)) rfl
            replace ha := Aside0.mk ha
            have HB := Aside0.mk Q_HB
            refine value_ (w1 := w') (v := .int .u64 xn) (wanted_on rfl rfl rfl (e78.trans (by first | rfl | (simp [*]; done)))) rfl ?_ ?_
            · go_simp
              (try simp only [i64_w])
              try rfl
            refine hK.out _ _ ⟨(by rw [ha.out]; exact putSel_upk 5 hb_ rfl rfl rfl), Q_HB⟩
          refine steps_cons ?_ ?_
          · rintro b a w' ⟨ha, Q_HB⟩ hb_ hon hoff
            refine ⟨_, rfl, fun K hK => ?_⟩
            have e10 : a.tmps[10]? = some (.pointer (some ⟨k10, 0, none⟩)) := by rw [ha]; exact (putSel_off rfl).trans rfl
            have e78 : a.tmps[78]? = some (.bool false) := by rw [ha]; exact putSel_on (e := (4, 78, .bool false)) 4 rfl rfl (hon 4 (by kernel_rfl)) rfl
            replace ha := Aside0.mk ha
            have HB := Aside0.mk Q_HB
            have c10_ : w'.cell? ⟨k10, 0, none⟩ = some (.slice (some ⟨g9, off9, none⟩) n cap9) := (HB.out.cell (World.block_lt_of_cell? _ _ HX10.out)).trans HX10.out
            refine value_ (w1 := w') (v := .slice (some ⟨g9, off9, none⟩) n cap9) (wanted_on rfl rfl rfl (e78.trans (by first | rfl | (simp [*]; done)))) rfl ?_ ?_
            · go_simp
              (try simp only [i64_w])
              try rfl
            refine hK.out _ _ ⟨(by rw [ha.out]; exact putSel_upk 6 hb_ rfl rfl rfl), Q_HB⟩
          refine steps_cons ?_ ?_
          · rintro b a w' ⟨ha, Q_HB⟩ hb_ hon hoff
            refine ⟨_, rfl, fun K hK => ?_⟩
            have e15 : a.tmps[15]? = some (.pointer (some ⟨k15, 0, none⟩)) := by rw [ha]; exact (putSel_off rfl).trans rfl
            have e78 : a.tmps[78]? = some (.bool false) := by rw [ha]; exact putSel_on (e := (4, 78, .bool false)) 4 rfl rfl (hon 4 (by kernel_rfl)) rfl
            replace ha := Aside0.mk ha
            have HB := Aside0.mk Q_HB
            have c15_ : w'.cell? ⟨k15, 0, none⟩ = some (.int .i64 (i : Int)) := (HB.out.cell (World.block_lt_of_cell? _ _ HX15.out)).trans HX15.out
            refine value_ (w1 := w') (v := .int .i64 (i : Int)) (wanted_on rfl rfl rfl (e78.trans (by first | rfl | (simp [*]; done)))) rfl ?_ ?_
            · go_simp
              (try simp only [i64_w])
              try rfl
            refine hK.out _ _ ⟨(by rw [ha.out]; exact putSel_upk 7 hb_ rfl rfl rfl), Q_HB⟩
          refine steps_cons ?_ ?_
          · rintro b a w' ⟨ha, Q_HB⟩ hb_ hon hoff
            refine ⟨_, rfl, fun K hK => ?_⟩
            have e80 : a.tmps[80]? = some (.slice (some ⟨g9, off9, none⟩) n cap9) := by rw [ha]; exact putSel_on (e := (6, 80, .slice (some ⟨g9, off9, none⟩) n cap9)) 6 rfl rfl (hon 6 (by kernel_rfl)) rfl
            have e81 : a.tmps[81]? = some (.int .i64 (i : Int)) := by rw [ha]; exact putSel_on (e := (7, 81, .int .i64 (i : Int))) 7 rfl rfl (hon 7 (by kernel_rfl)) rfl
            have e78 : a.tmps[78]? = some (.bool false) := by rw [ha]; exact putSel_on (e := (4, 78, .bool false)) 4 rfl rfl (hon 4 (by kernel_rfl)) rfl
            replace ha := Aside0.mk ha
            have HB := Aside0.mk Q_HB
            have hlt_ := HIN.out.1
            refine value_ (w1 := w') (v := .pointer (some ⟨g9, off9 + i, none⟩)) (wanted_on rfl rfl rfl (e78.trans (by first | rfl | (simp [*]; done)))) rfl ?_ ?_
            · go_simp
              (try simp only [i64_w])
              try rfl
            refine hK.out _ _ ⟨(by rw [ha.out]; exact putSel_upk 8 hb_ rfl rfl rfl), Q_HB⟩
          refine steps_cons ?_ ?_
          · rintro b a w' ⟨ha, Q_HB⟩ hb_ hon hoff
            refine ⟨_, rfl, fun K hK => ?_⟩
            have e82 : a.tmps[82]? = some (.pointer (some ⟨g9, off9 + i, none⟩)) := by rw [ha]; exact putSel_on (e := (8, 82, .pointer (some ⟨g9, off9 + i, none⟩))) 8 rfl rfl (hon 8 (by kernel_rfl)) rfl
            have e78 : a.tmps[78]? = some (.bool false) := by rw [ha]; exact putSel_on (e := (4, 78, .bool false)) 4 rfl rfl (hon 4 (by kernel_rfl)) rfl
            replace ha := Aside0.mk ha
            have HB := Aside0.mk Q_HB
            have c_ : w'.cell? ⟨g9, off9 + i, none⟩ = some (.int .u64 xn) := (HB.out.cell (World.block_lt_of_cell? _ _ HX9.out)).trans HX9.out
            refine value_ (w1 := w') (v := .int .u64 xn) (wanted_on rfl rfl rfl (e78.trans (by first | rfl | (simp [*]; done)))) rfl ?_ ?_
            · go_simp
              (try simp only [i64_w])
              try rfl
            refine hK.out _ _ ⟨(by rw [ha.out]; exact putSel_upk 9 hb_ rfl rfl rfl), Q_HB⟩
          refine steps_cons ?_ ?_
          · rintro b a w' ⟨ha, Q_HB⟩ hb_ hon hoff
            refine ⟨_, rfl, fun K hK => ?_⟩
            have e79 : a.tmps[79]? = some (.int .u64 xn) := by rw [ha]; exact putSel_on (e := (5, 79, .int .u64 xn)) 5 rfl rfl (hon 5 (by kernel_rfl)) rfl
            have e83 : a.tmps[83]? = some (.int .u64 xn) := by rw [ha]; exact putSel_on (e := (9, 83, .int .u64 xn)) 9 rfl rfl (hon 9 (by kernel_rfl)) rfl
            have e78 : a.tmps[78]? = some (.bool false) := by rw [ha]; exact putSel_on (e := (4, 78, .bool false)) 4 rfl rfl (hon 4 (by kernel_rfl)) rfl
            replace ha := Aside0.mk ha
            have HB := Aside0.mk Q_HB
            refine value_ (w1 := w') (v := .bool false) (wanted_on rfl rfl rfl (e78.trans (by first | rfl | (simp [*]; done)))) rfl ?_ ?_
            · go_simp
              (try simp only [i64_w])
              try rfl
            refine hK.out _ _ ⟨(by rw [ha.out]; exact putSel_upk 10 hb_ rfl rfl rfl), Q_HB⟩
          refine steps_cons ?_ ?_
          · rintro b a w' ⟨ha, Q_HB⟩ hb_ hon hoff
            refine ⟨_, rfl, fun K hK => ?_⟩
            have e78 : a.tmps[78]? = some (.bool false) := by rw [ha]; exact putSel_on (e := (4, 78, .bool false)) 4 rfl rfl (hon 4 (by kernel_rfl)) rfl
            have e84 : a.tmps[84]? = some (.bool false) := by rw [ha]; exact putSel_on (e := (10, 84, .bool false)) 10 rfl rfl (hon 10 (by kernel_rfl)) rfl
            replace ha := Aside0.mk ha
            have HB := Aside0.mk Q_HB
            refine value_ (w1 := w') (v := .bool false) (by rfl) rfl ?_ ?_
            · go_simp
              (try simp only [i64_w])
              try rfl
            refine hK.out _ _ ⟨(by rw [ha.out]; exact putSel_upk 11 hb_ rfl rfl rfl), Q_HB⟩
          refine steps_cons ?_ ?_
          · rintro b a w' ⟨ha, Q_HB⟩ hb_ hon hoff
            refine ⟨_, rfl, fun K hK => ?_⟩
            have e85 : a.tmps[85]? = some (.bool false) := by rw [ha]; exact putSel_on (e := (11, 85, .bool false)) 11 rfl rfl (hon 11 (by kernel_rfl)) rfl
            replace ha := Aside0.mk ha
            have HB := Aside0.mk Q_HB
            refine value_ (w1 := w') (v := .bool false) (by rfl) rfl ?_ ?_
            · go_simp
              (try simp only [i64_w])
              try rfl
            refine hK.out _ _ ⟨(by rw [ha.out]; exact putSel_upk 12 hb_ rfl rfl rfl), Q_HB⟩
          refine steps_cons ?_ ?_
          · rintro b a w' ⟨ha, Q_HB⟩ hb_ hon hoff
            refine ⟨_, rfl, fun K hK => ?_⟩
            have e17 : a.tmps[17]? = some (.slice xA xb.length xc) := by rw [ha]; exact (putSel_off rfl).trans rfl
            have e86 : a.tmps[86]? = some (.bool false) := by rw [ha]; exact putSel_on (e := (12, 86, .bool false)) 12 rfl rfl (hon 12 (by kernel_rfl)) rfl
            replace ha := Aside0.mk ha
            have HB := Aside0.mk Q_HB
            refine value_ (w1 := w') (v := .slice xA xb.length xc) (wanted_on rfl rfl rfl (e86.trans (by first | rfl | (simp [*]; done)))) rfl ?_ ?_
            · go_simp
              (try simp only [i64_w])
              try rfl
            refine hK.out _ _ ⟨(by rw [ha.out]; exact putSel_upk 13 hb_ rfl rfl rfl), Q_HB⟩
          refine steps_cons ?_ ?_
          · rintro b a w' ⟨ha, Q_HB⟩ hb_ hon hoff
            refine ⟨_, rfl, fun K hK => ?_⟩
            have e87 : a.tmps[87]? = some (.slice xA xb.length xc) := by rw [ha]; exact putSel_on (e := (13, 87, .slice xA xb.length xc)) 13 rfl rfl (hon 13 (by kernel_rfl)) rfl
            have e86 : a.tmps[86]? = some (.bool false) := by rw [ha]; exact putSel_on (e := (12, 86, .bool false)) 12 rfl rfl (hon 12 (by kernel_rfl)) rfl
            replace ha := Aside0.mk ha
            have HB := Aside0.mk Q_HB
            have hcv_ := HCV.out _ HB.out
            refine value_ (w1 := w') (v := .string s) (wanted_on rfl rfl rfl (e86.trans (by first | rfl | (simp [*]; done)))) rfl ?_ ?_
            · go_simp
              (try simp only [i64_w])
              try rfl
            refine hK.out _ _ ⟨(by rw [ha.out]; exact putSel_upk 14 hb_ rfl rfl rfl), Q_HB⟩
          refine steps_cons ?_ ?_
          · rintro b a w' ⟨ha, Q_HB⟩ hb_ hon hoff
            refine ⟨_, rfl, fun K hK => ?_⟩
            have e3 : a.tmps[3]? = some (.pointer (some ⟨k3, 0, none⟩)) := by rw [ha]; exact (putSel_off rfl).trans rfl
            have e86 : a.tmps[86]? = some (.bool false) := by rw [ha]; exact putSel_on (e := (12, 86, .bool false)) 12 rfl rfl (hon 12 (by kernel_rfl)) rfl
            replace ha := Aside0.mk ha
            have HB := Aside0.mk Q_HB
            have c3_ : w'.cell? ⟨k3, 0, none⟩ = some (.slice (some ad) n c0) := (HB.out.cell (World.block_lt_of_cell? _ _ HX3.out)).trans HX3.out
            refine value_ (w1 := w') (v := .slice (some ad) n c0) (wanted_on rfl rfl rfl (e86.trans (by first | rfl | (simp [*]; done)))) rfl ?_ ?_
            · go_simp
              (try simp only [i64_w])
              try rfl
            refine hK.out _ _ ⟨(by rw [ha.out]; exact putSel_upk 15 hb_ rfl rfl rfl), Q_HB⟩
          refine steps_cons ?_ ?_
          · rintro b a w' ⟨ha, Q_HB⟩ hb_ hon hoff
            refine ⟨_, rfl, fun K hK => ?_⟩
            have e15 : a.tmps[15]? = some (.pointer (some ⟨k15, 0, none⟩)) := by rw [ha]; exact (putSel_off rfl).trans rfl
            have e86 : a.tmps[86]? = some (.bool false) := by rw [ha]; exact putSel_on (e := (12, 86, .bool false)) 12 rfl rfl (hon 12 (by kernel_rfl)) rfl
            replace ha := Aside0.mk ha
            have HB := Aside0.mk Q_HB
            have c15_ : w'.cell? ⟨k15, 0, none⟩ = some (.int .i64 (i : Int)) := (HB.out.cell (World.block_lt_of_cell? _ _ HX15.out)).trans HX15.out
            refine value_ (w1 := w') (v := .int .i64 (i : Int)) (wanted_on rfl rfl rfl (e86.trans (by first | rfl | (simp [*]; done)))) rfl ?_ ?_
            · go_simp
              (try simp only [i64_w])
              try rfl
            refine hK.out _ _ ⟨(by rw [ha.out]; exact putSel_upk 16 hb_ rfl rfl rfl), Q_HB⟩
          refine steps_cons ?_ ?_
          · rintro b a w' ⟨ha, Q_HB⟩ hb_ hon hoff
            refine ⟨_, rfl, fun K hK => ?_⟩
            have e89 : a.tmps[89]? = some (.slice (some ad) n c0) := by rw [ha]; exact putSel_on (e := (15, 89, .slice (some ad) n c0)) 15 rfl rfl (hon 15 (by kernel_rfl)) rfl
            have e90 : a.tmps[90]? = some (.int .i64 (i : Int)) := by rw [ha]; exact putSel_on (e := (16, 90, .int .i64 (i : Int))) 16 rfl rfl (hon 16 (by kernel_rfl)) rfl
            have e86 : a.tmps[86]? = some (.bool false) := by rw [ha]; exact putSel_on (e := (12, 86, .bool false)) 12 rfl rfl (hon 12 (by kernel_rfl)) rfl
            replace ha := Aside0.mk ha
            have HB := Aside0.mk Q_HB
            have hlt_ := HIN.out.1
            refine value_ (w1 := w') (v := .pointer (some (ad.add i))) (wanted_on rfl rfl rfl (e86.trans (by first | rfl | (simp [*]; done)))) rfl ?_ ?_
            · go_simp
              (try simp only [i64_w])
              try rfl
            refine hK.out _ _ ⟨(by rw [ha.out]; exact putSel_upk 17 hb_ rfl rfl rfl), Q_HB⟩
          refine steps_cons ?_ ?_
          · rintro b a w' ⟨ha, Q_HB⟩ hb_ hon hoff
            refine ⟨_, rfl, fun K hK => ?_⟩
            have e91 : a.tmps[91]? = some (.pointer (some (ad.add i))) := by rw [ha]; exact putSel_on (e := (17, 91, .pointer (some (ad.add i)))) 17 rfl rfl (hon 17 (by kernel_rfl)) rfl
            have e86 : a.tmps[86]? = some (.bool false) := by rw [ha]; exact putSel_on (e := (12, 86, .bool false)) 12 rfl rfl (hon 12 (by kernel_rfl)) rfl
            replace ha := Aside0.mk ha
            have HB := Aside0.mk Q_HB
            have c_ : w'.cell? (ad.add i) = some (.int .i64 sj) := (HB.out.cell (World.block_lt_of_cell? _ _ HXS.out)).trans HXS.out
            refine value_ (w1 := w') (v := .int .i64 sj) (wanted_on rfl rfl rfl (e86.trans (by first | rfl | (simp [*]; done)))) rfl ?_ ?_
            · go_simp
              (try simp only [i64_w])
              try rfl
            refine hK.out _ _ ⟨(by rw [ha.out]; exact putSel_upk 18 hb_ rfl rfl rfl), Q_HB⟩
          refine steps_cons ?_ ?_
          · rintro b a w' ⟨ha, Q_HB⟩ hb_ hon hoff
            refine ⟨_, rfl, fun K hK => ?_⟩
            have e92 : a.tmps[92]? = some (.int .i64 sj) := by rw [ha]; exact putSel_on (e := (18, 92, .int .i64 sj)) 18 rfl rfl (hon 18 (by kernel_rfl)) rfl
            have e86 : a.tmps[86]? = some (.bool false) := by rw [ha]; exact putSel_on (e := (12, 86, .bool false)) 12 rfl rfl (hon 12 (by kernel_rfl)) rfl
            replace ha := Aside0.mk ha
            have HB := Aside0.mk Q_HB
            have hm_ := HM.out
            refine value_ (w1 := w') (v := .int .i64 (m : Int)) (wanted_on rfl rfl rfl (e86.trans (by first | rfl | (simp [*]; done)))) rfl ?_ ?_
            · go_simp
              (try simp only [i64_w])
              try rfl
            refine hK.out _ _ ⟨(by rw [ha.out]; exact putSel_upk 19 hb_ rfl rfl rfl), Q_HB⟩
          refine steps_cons ?_ ?_
          · rintro b a w' ⟨ha, Q_HB⟩ hb_ hon hoff
            refine ⟨_, rfl, fun K hK => ?_⟩
            have e15 : a.tmps[15]? = some (.pointer (some ⟨k15, 0, none⟩)) := by rw [ha]; exact (putSel_off rfl).trans rfl
            have e86 : a.tmps[86]? = some (.bool false) := by rw [ha]; exact putSel_on (e := (12, 86, .bool false)) 12 rfl rfl (hon 12 (by kernel_rfl)) rfl
            replace ha := Aside0.mk ha
            have HB := Aside0.mk Q_HB
            have c15_ : w'.cell? ⟨k15, 0, none⟩ = some (.int .i64 (i : Int)) := (HB.out.cell (World.block_lt_of_cell? _ _ HX15.out)).trans HX15.out
            refine value_ (w1 := w') (v := .int .i64 (i : Int)) (wanted_on rfl rfl rfl (e86.trans (by first | rfl | (simp [*]; done)))) rfl ?_ ?_
            · go_simp
              (try simp only [i64_w])
              try rfl
            refine hK.out _ _ ⟨(by rw [ha.out]; exact putSel_upk 20 hb_ rfl rfl rfl), Q_HB⟩
          refine steps_cons ?_ ?_
          · rintro b a w' ⟨ha, Q_HB⟩ hb_ hon hoff
            refine ⟨_, rfl, fun K hK => ?_⟩
            have e93 : a.tmps[93]? = some (.int .i64 (m : Int)) := by rw [ha]; exact putSel_on (e := (19, 93, .int .i64 (m : Int))) 19 rfl rfl (hon 19 (by kernel_rfl)) rfl
            have e94 : a.tmps[94]? = some (.int .i64 (i : Int)) := by rw [ha]; exact putSel_on (e := (20, 94, .int .i64 (i : Int))) 20 rfl rfl (hon 20 (by kernel_rfl)) rfl
            have e86 : a.tmps[86]? = some (.bool false) := by rw [ha]; exact putSel_on (e := (12, 86, .bool false)) 12 rfl rfl (hon 12 (by kernel_rfl)) rfl
            replace ha := Aside0.mk ha
            have HB := Aside0.mk Q_HB
            refine goes_ Try.func41 (by kernel_rfl) rfl #[.int .i64 (m : Int), .int .i64 (i : Int)] (wanted_on rfl rfl rfl (e86.trans (by first | rfl | (simp [*]; done)))) rfl rfl (by first | (simp only [List.map_toArray, List.map_cons, List.map_nil, Act.eval, Array.getD_eq_getD_getElem?, Option.getD_some, e93, e94, e86]; done) | (simp only [List.map_toArray, List.map_cons, List.map_nil, Act.eval, Array.getD_eq_getD_getElem?, Option.getD_some, e93, e94, e86]; rfl)) ?_
            refine (HS.out w').mono ?_
            rintro e_ wn_ ⟨rfl, hbw_⟩
            refine ⟨_, rfl, ?_⟩
            refine hK.out _ _ ⟨(by rw [ha.out]; exact putSel_upk 21 hb_ rfl rfl rfl), (below_step HB.out hbw_)⟩
          refine steps_cons ?_ ?_
          · rintro b a w' ⟨ha, Q_HB⟩ hb_ hon hoff
            refine ⟨_, rfl, fun K hK => ?_⟩
            have e88 : a.tmps[88]? = some (.string s) := by rw [ha]; exact putSel_on (e := (14, 88, .string s)) 14 rfl rfl (hon 14 (by kernel_rfl)) rfl
            have e95 : a.tmps[95]? = some (.string s) := by rw [ha]; exact putSel_on (e := (21, 95, .string s)) 21 rfl rfl (hon 21 (by kernel_rfl)) rfl
            have e86 : a.tmps[86]? = some (.bool false) := by rw [ha]; exact putSel_on (e := (12, 86, .bool false)) 12 rfl rfl (hon 12 (by kernel_rfl)) rfl
            replace ha := Aside0.mk ha
            have HB := Aside0.mk Q_HB
            refine value_ (w1 := w') (v := .bool false) (wanted_on rfl rfl rfl (e86.trans (by first | rfl | (simp [*]; done)))) rfl ?_ ?_
            · go_simp
              (try simp only [i64_w])
              try rfl
            refine hK.out _ _ ⟨(by rw [ha.out]; exact putSel_upk 22 hb_ rfl rfl rfl), Q_HB⟩
          refine steps_cons ?_ ?_
          · rintro b a w' ⟨ha, Q_HB⟩ hb_ hon hoff
            refine ⟨_, rfl, fun K hK => ?_⟩
            have e86 : a.tmps[86]? = some (.bool false) := by rw [ha]; exact putSel_on (e := (12, 86, .bool false)) 12 rfl rfl (hon 12 (by kernel_rfl)) rfl
            have e96 : a.tmps[96]? = some (.bool false) := by rw [ha]; exact putSel_on (e := (22, 96, .bool false)) 22 rfl rfl (hon 22 (by kernel_rfl)) rfl
            replace ha := Aside0.mk ha
            have HB := Aside0.mk Q_HB
            refine value_ (w1 := w') (v := .bool false) (by rfl) rfl ?_ ?_
            · go_simp
              (try simp only [i64_w])
              try rfl
            refine hK.out _ _ ⟨(by rw [ha.out]; exact putSel_upk 23 hb_ rfl rfl rfl), Q_HB⟩
          exact steps_nil
        rintro b a w' hall ⟨ha, Q_HB⟩
        clear HB
        have hb0_ := hall 0 (by kernel_rfl)
        have hb1_ := hall 1 (by kernel_rfl)
        have hb2_ := hall 2 (by kernel_rfl)
        have hb3_ := hall 3 (by kernel_rfl)
        have hb4_ := hall 4 (by kernel_rfl)
        have hb5_ := hall 5 (by kernel_rfl)
        have hb6_ := hall 6 (by kernel_rfl)
        have hb7_ := hall 7 (by kernel_rfl)
        have hb8_ := hall 8 (by kernel_rfl)
        have hb9_ := hall 9 (by kernel_rfl)
        have hb10_ := hall 10 (by kernel_rfl)
        have hb11_ := hall 11 (by kernel_rfl)
        have hb12_ := hall 12 (by kernel_rfl)
        have hb13_ := hall 13 (by kernel_rfl)
        have hb14_ := hall 14 (by kernel_rfl)
        have hb15_ := hall 15 (by kernel_rfl)
        have hb16_ := hall 16 (by kernel_rfl)
        have hb17_ := hall 17 (by kernel_rfl)
        have hb18_ := hall 18 (by kernel_rfl)
        have hb19_ := hall 19 (by kernel_rfl)
        have hb20_ := hall 20 (by kernel_rfl)
        have hb21_ := hall 21 (by kernel_rfl)
        have hb22_ := hall 22 (by kernel_rfl)
        have hb23_ := hall 23 (by kernel_rfl)
        subst ha
        simp only [putSel, hb0_, hb1_, hb2_, hb3_, hb4_, hb5_, hb6_, hb7_, hb8_, hb9_, hb10_, hb11_, hb12_, hb13_, hb14_, hb15_, hb16_, hb17_, hb18_, hb19_, hb20_, hb21_, hb22_, hb23_, if_true, Act.put, List.setIfInBounds_toArray, List.set_cons_zero, List.set_cons_succ]
        have HB := Aside0.mk Q_HB
        clear Q_HB
        clear hall hb0_ hb1_ hb2_ hb3_ hb4_ hb5_ hb6_ hb7_ hb8_ hb9_ hb10_ hb11_ hb12_ hb13_ hb14_ hb15_ hb16_ hb17_ hb18_ hb19_ hb20_ hb21_ hb22_ hb23_
        have c15 : w'.cell? ⟨k15, 0, none⟩ = some (.int .i64 (i : Int)) := (HB.out.cell (World.block_lt_of_cell? _ _ HX15.out)).trans HX15.out
        have hbw15 : Boxed w' k15 3 (.int .i64 (i : Int)) := (HB.out.block _ HBB.out.1.lt).trans HBB.out.1
        have f15 := hbw15.frozen
        have hwr : IntKind.i64.wrap ((i : Int) + 1) = (i : Int) + 1 := wi64 (by have := HIN.out.1; omega) (by have := HIN.out.1; omega)
        clear hf15
        gi_wp2
        have hb2 := hbw15.set (.int .i64 ((i : Int) + 1))
        have hk15 : k15 ≤ wa.heap.size := Nat.le_of_lt HBB.out.1.lt
        have hB1 : Below k15 wa (w'.setCell ⟨k15, 0, none⟩ (.int .i64 ((i : Int) + 1))) := (HB.out.mono hk15).grown (grownBy_setCell' w' k15 _) (Nat.le_of_lt hbw15.lt) (fun k e => by cases e; exact Nat.le_refl _)
        refine ⟨((KeepsOthers.of_grownBy (grown_of_below HB.out none) (fun _ _ e => by cases e)).trans (KeepsOthers.setCell w' ⟨k15, 0, none⟩ (.int .i64 ((i : Int) + 1)))).from _, ⟨hB1, ?_⟩, ?_, HBB.out.2.1.trans hB1⟩
        · exact (Below.heap_setCell _ _ _ _ (by show k15 + 1 ≠ k15; omega)).trans (HB.out.block _ (by have := HBB.out.2.2; omega))
        · rw [List.length_append, List.length_singleton]
          rw [show ((fr : Int) + ((pre.length + 1 : Nat) : Int)) = (i : Int) + 1 from by have := HIN.out.2.2; omega]
          exact hb2
      case done =>
        rintro D xs W hD hS ⟨hb15, hB⟩ hKd
        have hxl : xs.length = n - fr := by
          have h := congrArg List.length hS
          rw [HT.out, numb_len, List.length_map, List.length_drop, HFR.out.1] at h
          exact h
        have hfn : fr + xs.length = n := by have := HFR.out.2; omega
        rw [hfn] at hb15
        have hst : ∀ (a : Addr) (v : Value), a.block < k15 → w1.cell? a = some v → W.cell? a = some v := fun a v h hc => by rw [← hc]; simp only [World.cell?, hB.block _ h]
        have HST := Aside0.mk (And.intro hb15 (And.intro hB (And.intro hKd hD)))
        have b3 : Boxed W k3 66 (.slice A0 n c0) := (hB.block _ (by have := HLw.out; omega)).trans HAL.out.b3
        have b5 : Boxed W (k3 + 1) 3 (.int .i64 st0) := (hB.block _ (by have := HLw.out; omega)).trans HAL.out.b5
        have HB3 := Aside0.mk (And.intro b3 b5)
        have c3 := b3.cell
        have c15 := hb15.cell
        have c5 := b5.cell
        have f5 := b5.frozen
        clear hS hxl hfn hst hb15 hB hKd hD b3 b5
        go_upto_region 32 with fail
        have hszW : k15 < W.heap.size := HST.out.1.lt
        have hB4 : Below w.heap.size w ((W.setCell ⟨k3 + 1, 0, none⟩ (.int .i64 (stp : Int))).alloc (.cells #[.int .i64 0] 3)) :=
          below_alloc (below_set (HW1.out.trans (HST.out.2.1.mono HLw.out.2.2.1)) (by have := HAL.out.kw; omega)) _
        have hk4 : Kept w1 ((W.setCell ⟨k3 + 1, 0, none⟩ (.int .i64 (stp : Int))).alloc (.cells #[.int .i64 0] 3)) (fun k => k = k3 + 1 ∨ k15 ≤ k) := by
          have h1 : Kept w1 W (fun k => k = k3 + 1 ∨ k15 ≤ k) := ⟨HST.out.2.1.size, fun k hlt hn => HST.out.2.1.block k (by omega), HST.out.2.1.os, HST.out.2.1.tape, HST.out.2.1.output⟩
          exact (h1.setCell (.inl (.inl rfl)) _).then_ (Kept.of_below (below_alloc (Below.refl _ _) _) (fun _ => False)) (fun _ h => h.elim)
        have hL4 := HAL.out.l.keep hk4 (fun k hk => by
          rcases hk with rfl | hk
          · have h := HAL.out.ns (k3 + 1) (.inr (.inl rfl)); exact ⟨h.1, h.2.1⟩
          · exact ⟨fun q => by have := HLw.out.1 k q; omega, by have := HLw.out.2.1; omega⟩) hB4
        have b4 : ∀ k, k < k15 → k ≠ k3 + 1 → ((W.setCell ⟨k3 + 1, 0, none⟩ (.int .i64 (stp : Int))).alloc (.cells #[.int .i64 0] 3)).heap[k]? = w1.heap[k]? := fun k h1 h2 => hk4.block k (by omega) (by omega)
        have hb5 : Boxed ((W.setCell ⟨k3 + 1, 0, none⟩ (.int .i64 (stp : Int))).alloc (.cells #[.int .i64 0] 3)) (k3 + 1) 3 (.int .i64 (stp : Int)) := (HB3.out.2.set _).alloc _
        have hz4 : ((W.setCell ⟨k3 + 1, 0, none⟩ (.int .i64 (stp : Int))).alloc (.cells #[.int .i64 0] 3)).heap.size = W.heap.size + 1 := by rw [World.size_alloc]; simp [World.setCell]
        have h18 : Boxed ((W.setCell ⟨k3 + 1, 0, none⟩ (.int .i64 (stp : Int))).alloc (.cells #[.int .i64 0] 3)) W.heap.size 3 (.int .i64 0) := by
          have h := Boxed.new (W.setCell ⟨k3 + 1, 0, none⟩ (.int .i64 (stp : Int))) 3 (.int .i64 0)
          rw [show (W.setCell ⟨k3 + 1, 0, none⟩ (.int .i64 (stp : Int))).heap.size = W.heap.size by simp [World.setCell]] at h
          exact h
        have hD4 : ((W.setCell ⟨k3 + 1, 0, none⟩ (.int .i64 (stp : Int))).alloc (.cells #[.int .i64 0] 3)).heap[D]? = some (.deferred (some [])) := ((KeepsOthers.setCell W ⟨k3 + 1, 0, none⟩ (.int .i64 (stp : Int))).trans (KeepsOthers.alloc _ _)).same D _ HST.out.2.2.1 rfl
        have hDl : D < W.heap.size := (Array.getElem?_eq_some_iff.1 HST.out.2.2.1).1
        obtain ⟨k18, hk18⟩ : ∃ k, k = W.heap.size := ⟨_, rfl⟩
        rw [← hk18] at hz4 h18 hDl hszW ⊢
        generalize ((W.setCell ⟨k3 + 1, 0, none⟩ (.int .i64 (stp : Int))).alloc (.cells #[.int .i64 0] 3)) = W4 at hB4 hL4 b4 hb5 hz4 h18 hD4 ⊢
        have H4 := Aside0.mk (show Wl w W4 p g S7 100 (1 + n) L M [] es ∧ Boxed W4 k3 66 (.slice A0 n c0) ∧ Boxed W4 (k3 + 1) 3 (.int .i64 (stp : Int)) ∧ Boxed W4 (k3 + 1 + 1) 4 (.bool false) ∧ Boxed W4 k10 62 (.slice (some ⟨g9, off9, none⟩) n cap9) ∧ Boxed W4 k18 3 (.int .i64 0) ∧ W4.heap[D]? = some (.deferred (some [])) ∧ W4.heap.size = k18 + 1 ∧ Below w.heap.size w W4 from
          ⟨hL4, (b4 _ (by have := HLw.out; omega) (by omega)).trans HAL.out.b3, hb5, (b4 _ HLw.out.2.2.2.1 (by omega)).trans HAL.out.b6, (b4 _ HLw.out.2.2.2.2.1 (by have := HAL.out.kk; omega)).trans HAL.out.b10, h18, hD4, hz4, hB4⟩)
        have hcy : W4.cell? ⟨g9, off9 + fr, none⟩ = some (.int .u64 Y) := by
          obtain ⟨gq, oq, cq, eq_, hcr⟩ := HAL.out.r.cell fr (by rw [ats_len, HFR.out.1]; exact HFR.out.2)
          rw [ats_len, HFR.out.1] at eq_
          injection eq_ with e1 _ e3
          injection e1 with e1
          injection e1 with e1 e2 _
          subst e1 e2
          have h := ats_get es 0 fr (by have := HFR.out; omega)
          rw [Int.zero_add, ← HY.out] at h
          rw [(List.getElem?_eq_some_iff.1 h).2] at hcr
          rw [← hcr]
          have h9 := HAL.out.nk g9 rfl
          simp only [World.cell?, b4 g9 HLw.out.2.2.2.2.2 (by omega)]
        have c10 := H4.out.2.2.2.2.1.cell
        clear hk4 hL4 b4 hb5 h18 hD4 hB4 c3 c15 c5 f5 hk18 hz4
        go_wp2_with fail
        refine (callsIn_wide.1 (all_c p Y _)).mono ?_
        rintro e w5 ⟨rfl, hq⟩
        have hb5 : Below W4.heap.size W4 w5 := by rw [hq]; exact below_alloc (below_alloc (Below.refl _ _) _) _
        have hbx := Boxed.new W4 52 (.pointer (some ⟨p, 0, none⟩))
        have hbb := Boxed.new (W4.alloc (.cells #[.pointer (some ⟨p, 0, none⟩)] 52)) 55 (.int .u64 Y)
        have hbA := hbx.alloc (.cells #[.int .u64 Y] 55)
        rw [← hq] at hbA hbb
        have hsz5 : w5.heap.size = k18 + 1 + 1 + 1 := by rw [hq, World.size_alloc, World.size_alloc, H4.out.2.2.2.2.2.2.2.1]
        rw [World.size_alloc] at hbb
        rw [H4.out.2.2.2.2.2.2.2.1] at hbA hbb ⊢
        have ht := fun k (hk : k < k18 + 1) => hb5.block k (by have := H4.out.2.2.2.2.2.2.2.1; omega)
        have H5 := Aside0.mk (show Wl w w5 p g S7 100 (1 + n) L M [] es ∧ Boxed w5 k3 66 (.slice A0 n c0) ∧ Boxed w5 (k3 + 1) 3 (.int .i64 (stp : Int)) ∧ Boxed w5 (k3 + 1 + 1) 4 (.bool false) ∧ Boxed w5 k18 3 (.int .i64 ((0 : Nat) : Int)) ∧ w5.heap[D]? = some (.deferred (some [])) ∧ D < k18 ∧ w1.heap.size ≤ D from
          ⟨H4.out.1.below hb5, (ht _ (by have := HLw.out; omega)).trans H4.out.2.1, (ht _ (by have := HLw.out; omega)).trans H4.out.2.2.1, (ht _ (by have := HLw.out; omega)).trans H4.out.2.2.2.1, (ht _ (by omega)).trans H4.out.2.2.2.2.2.1, (ht _ (by omega)).trans H4.out.2.2.2.2.2.2.1, hDl, HST.out.2.2.2⟩)
        clear hcy c10 hb5 hbx hq ht
        go_wp2_with fail
        refine (wpIn_wide (n := 4)).1 ?_
        have HSQ := all_s H5.out.1.G (n0 := k18) (by have := HLw.out; omega) (by omega) (fun k hk => by have := HLw.out.1 k hk; omega) (by have := HLw.out; omega) (H5.out.1.I.ok (by omega)) H5.out.1.I.C.Y Y hYb.1 hYb.2 (k18 + 1) (k18 + 1 + 1) hbA.cell hbb.cell
        rw [hT, ← HT.out] at HSQ
        have hle2 : k18 + 1 ≤ w5.heap.size := by omega
        refine range_H (n := 4) rfl (by decide) (gf := 58) (lb := #[.pointer (some ⟨k18 + 1, 0, none⟩), .pointer (some ⟨k18 + 1 + 1, 0, none⟩)]) rfl trivial (enters_of Try.func58 (by kernel_rfl) rfl) HSQ
          (fun h k => h.trans k) (fun A l o o' hl ho hc => ⟨(Below.refl k18 A).grown (grownBy_putObj' A l o') (by have := (Array.getElem?_eq_some_iff.1 ho).1; omega) (fun k e => by cases e; omega), World.putObj_heap_other (by omega)⟩) (fun _ => rfl)
          (fun pre x A l o o' hx ho hc => ⟨ownsRow_putObj hx.1 o' ho hc, hx.2⟩)
          (fun (pre : List Item) W => Boxed W k18 3 (.int .i64 (pre.length : Int)) ∧ (Below k18 w5 W ∧ pre.length ≤ stp)) (fun c pre W => (c = .exit 4 ∧ stp + 1 ≤ n - fr) ∧ (Boxed W k18 3 (.int .i64 (stp : Int)) ∧ Below k18 w5 W))
          (OwnFrom.and (Own.from (boxed_own _ _ _) _) (OwnFrom.and (ownFrom_below (by omega) (by omega)) (fun _ _ _ _ hs _ _ => hs))) (fun c => OwnFrom.and (fun _ _ _ _ hs _ _ => hs) (OwnFrom.and (Own.from (boxed_own _ _ (fun _ => .int .i64 (stp : Int))) _) (ownFrom_below (by omega) (by omega))))
          ⟨H5.out.2.2.2.2.1, Below.refl _ _, Nat.zero_le _⟩ ?b1 ?assign2 ?body2 ?done2 ?stop2
        case assign2 =>
          intro l x W K hK
          simp only [encs]
          gi_wp2
          exact hK
        case body2 =>
          rintro l pre ⟨xn, xv, xb⟩ W9 ⟨hb18, hB9, hle⟩ ⟨hown, hpre⟩ hlt9
          rw [HT.out] at hpre
          obtain ⟨i1, i2, i3⟩ := numb_at (by have := HFR.out; omega) HY.out (show (pre.map Item.e ++ [(xn, xb)]) <+: _ from hpre)
          rw [List.length_map, HFR.out.1] at i1
          have c18 := hb18.cell
          have f18 := hb18.frozen
          have hb59 : Boxed W9 (k3 + 1) 3 (.int .i64 (stp : Int)) := (hB9.block _ (by have := HLw.out; omega)).trans H5.out.2.2.1
          have c5 := hb59.cell
          have HBB := Aside0.mk (And.intro hb18 (And.intro hB9 (And.intro hle (And.intro hlt9 i1))))
          clear hown hpre i2 i3 hb59 hB9 hle hb18 hlt9 i1
          by_cases hq : pre.length = stp
          · have t_ : ((pre.length : Int) == (stp : Int)) = true := by rw [hq]; simp
            have HQ := Aside0.mk hq
            clear hq
            gi_wp2
            have h18 := HBB.out.1
            rw [HQ.out] at h18
            exact ⟨KeepsFrom.refl _ _, ⟨rfl, by have := HBB.out.2.2.2.2; have := HQ.out; omega⟩, h18, HBB.out.2.1⟩
          · have t_ : ((pre.length : Int) == (stp : Int)) = false := by simp; omega
            have HQ := Aside0.mk hq
            have hwr : IntKind.i64.wrap ((pre.length : Int) + 1) = (pre.length : Int) + 1 := wi64 (by omega) (by have := HBB.out.2.2.2.2; omega)
            clear hq
            gi_wp2
            have hb2 := HBB.out.1.set (.int .i64 ((pre.length : Int) + 1))
            have hk18 : k18 < W9.heap.size := HBB.out.1.lt
            have hB1 : Below k18 W9 (W9.setCell ⟨k18, 0, none⟩ (.int .i64 ((pre.length : Int) + 1))) := (Below.refl k18 W9).grown (grownBy_setCell' W9 k18 _) (Nat.le_of_lt hk18) (fun k e => by cases e; exact Nat.le_refl _)
            refine ⟨(KeepsOthers.setCell W9 ⟨k18, 0, none⟩ (.int .i64 ((pre.length : Int) + 1))).from _, ⟨hB1, ?_⟩, ?_, HBB.out.2.1.trans hB1, ?_⟩
            · exact Below.heap_setCell _ _ _ _ (by show k18 + 1 ≠ k18; omega)
            · rw [List.length_append, List.length_singleton]
              exact hb2
            · have := HBB.out.2.2.1; have := HQ.out; rw [List.length_append, List.length_singleton]; omega
        case done2 =>
          rintro D2 xs2 W9 hD2 hS ⟨hb18, hB9, hle⟩ hKd2
          have hxl : xs2.length = n - fr := by
            have h := congrArg List.length hS
            rw [HT.out, numb_len, List.length_map, List.length_drop, HFR.out.1] at h
            exact h
          obtain ⟨q, hq⟩ : ∃ q, q = xs2.length := ⟨_, rfl⟩
          rw [← hq] at hb18
          have hqm : q = min stp (n - fr) := by omega
          clear hS hxl hq hle
          have b39 : Boxed W9 k3 66 (.slice A0 n c0) := (hB9.block _ (by have := HLw.out; omega)).trans H5.out.2.1
          have b59 : Boxed W9 (k3 + 1) 3 (.int .i64 (stp : Int)) := (hB9.block _ (by have := HLw.out; omega)).trans H5.out.2.2.1
          have b69 : Boxed W9 (k3 + 1 + 1) 4 (.bool false) := (hB9.block _ (by have := HLw.out; omega)).trans H5.out.2.2.2.1
          have HE := Aside0.mk (And.intro b69 (And.intro hB9 (And.intro hKd2 (And.intro hD2 hqm))))
          have c18 := hb18.cell
          have c3 := b39.cell
          have c5 := b59.cell
          have f6 := b69.frozen
          have c6 := b69.cell
          have hwr : IntKind.i64.wrap ((n : Int) - (fr : Int)) = (n : Int) - (fr : Int) := wi64 (by omega) (by omega)
          clear hqm hb18 hB9 hKd2 hD2 b39 b59 b69
          go_upto_region 35 with fail
          go_wp2
          all_goals
            first
              | rw [show ((q : Int) == (stp : Int)) = true from by have := HE.out.2.2.2.2; simp only [beq_iff_eq]; omega]
              | rw [show ((q : Int) == (n : Int) - (fr : Int)) = true from by have := HE.out.2.2.2.2; simp only [beq_iff_eq]; omega]
            have hk2 := (KeepsOthers.setCell W9 ⟨k3 + 1 + 1, 0, none⟩ (.bool true)).same D2 _ HE.out.2.2.1 rfl
            have hk1 := (KeepsOthers.setCell W9 ⟨k3 + 1 + 1, 0, none⟩ (.bool true)).same D _ ((HE.out.2.1.block D H5.out.2.2.2.2.2.2.1).trans H5.out.2.2.2.2.2.1) rfl
            have hDD : D ≠ D2 := by have := HE.out.2.2.2.1; have := H5.out.2.2.2.2.2.2.1; omega
            have hk1b : ((W9.setCell ⟨k3 + 1 + 1, 0, none⟩ (.bool true)).putObj D2 (.deferred none)).heap[D]? = some (.deferred (some [])) := (World.putObj_heap_other hDD).trans hk1
            refine ⟨by simp, .inl ⟨_, _, rfl, run_takeDeferred hk2, ?_⟩⟩
            refine ⟨by simp, .inl ⟨_, _, rfl, run_takeDeferred hk1b, ?_⟩⟩
            have hw1 : k15 < w1.heap.size := h15.lt
            have hz5 := hsz5
            have hb3 : Boxed (((W9.setCell ⟨k3 + 1 + 1, 0, none⟩ (.bool true)).putObj D2 (.deferred none)).putObj D (.deferred none)) (k3 + 1 + 1) 4 (.bool true) :=
              (World.putObj_heap_other (by have := H5.out.2.2.2.2.2.2.2; have := HLw.out; omega)).trans ((World.putObj_heap_other (by have := HE.out.2.2.2.1; have := HLw.out; omega)).trans (HE.out.1.set (.bool true)))
            have hB2 : Below w.heap.size w (W9.setCell ⟨k3 + 1 + 1, 0, none⟩ (.bool true)) := below_set (H5.out.1.G.D.B.trans (HE.out.2.1.mono (by have := HLw.out; omega))) (by have := HAL.out.kw; omega)
            refine ⟨.bool true, ?_, rfl, (hB2.trans (belowK_b (w := w5) H5.out.1.G.D.B.size _ D2 _ _ HE.out.2.2.2.1 hk2 rfl rfl)).trans (belowK_b (w := w1) HW1.out.size _ D _ _ H5.out.2.2.2.2.2.2.2 hk1b rfl rfl)⟩
            have hc3 := hb3.cell
            clear hk2 hk1 hk1b hb3 hB2 c18 c3 c5 f6 c6
            simp [results, go_sem, hc3]
        case stop2 =>
          rintro D2 c pre W9 hD2 hSp ⟨⟨rfl, hle⟩, hb18, hB9⟩ hKd2
          refine wpIn_exit ?_
          obtain ⟨q, hq⟩ : ∃ q, q = stp := ⟨_, rfl⟩
          rw [← hq] at hb18
          have hqm : q = min stp (n - fr) := by omega
          clear hSp hq hle
          have b39 : Boxed W9 k3 66 (.slice A0 n c0) := (hB9.block _ (by have := HLw.out; omega)).trans H5.out.2.1
          have b59 : Boxed W9 (k3 + 1) 3 (.int .i64 (stp : Int)) := (hB9.block _ (by have := HLw.out; omega)).trans H5.out.2.2.1
          have b69 : Boxed W9 (k3 + 1 + 1) 4 (.bool false) := (hB9.block _ (by have := HLw.out; omega)).trans H5.out.2.2.2.1
          have HE := Aside0.mk (And.intro b69 (And.intro hB9 (And.intro hKd2 (And.intro hD2 hqm))))
          have c18 := hb18.cell
          have c3 := b39.cell
          have c5 := b59.cell
          have f6 := b69.frozen
          have c6 := b69.cell
          have hwr : IntKind.i64.wrap ((n : Int) - (fr : Int)) = (n : Int) - (fr : Int) := wi64 (by omega) (by omega)
          clear hqm hb18 hB9 hKd2 hD2 b39 b59 b69
          go_upto_region 35 with fail
          go_wp2
          all_goals
            first
              | rw [show ((q : Int) == (stp : Int)) = true from by have := HE.out.2.2.2.2; simp only [beq_iff_eq]; omega]
              | rw [show ((q : Int) == (n : Int) - (fr : Int)) = true from by have := HE.out.2.2.2.2; simp only [beq_iff_eq]; omega]
            have hk2 := (KeepsOthers.setCell W9 ⟨k3 + 1 + 1, 0, none⟩ (.bool true)).same D2 _ HE.out.2.2.1 rfl
            have hk1 := (KeepsOthers.setCell W9 ⟨k3 + 1 + 1, 0, none⟩ (.bool true)).same D _ ((HE.out.2.1.block D H5.out.2.2.2.2.2.2.1).trans H5.out.2.2.2.2.2.1) rfl
            have hDD : D ≠ D2 := by have := HE.out.2.2.2.1; have := H5.out.2.2.2.2.2.2.1; omega
            have hk1b : ((W9.setCell ⟨k3 + 1 + 1, 0, none⟩ (.bool true)).putObj D2 (.deferred none)).heap[D]? = some (.deferred (some [])) := (World.putObj_heap_other hDD).trans hk1
            refine ⟨by simp, .inl ⟨_, _, rfl, run_takeDeferred hk2, ?_⟩⟩
            refine ⟨by simp, .inl ⟨_, _, rfl, run_takeDeferred hk1b, ?_⟩⟩
            have hw1 : k15 < w1.heap.size := h15.lt
            have hz5 := hsz5
            have hb3 : Boxed (((W9.setCell ⟨k3 + 1 + 1, 0, none⟩ (.bool true)).putObj D2 (.deferred none)).putObj D (.deferred none)) (k3 + 1 + 1) 4 (.bool true) :=
              (World.putObj_heap_other (by have := H5.out.2.2.2.2.2.2.2; have := HLw.out; omega)).trans ((World.putObj_heap_other (by have := HE.out.2.2.2.1; have := HLw.out; omega)).trans (HE.out.1.set (.bool true)))
            have hB2 : Below w.heap.size w (W9.setCell ⟨k3 + 1 + 1, 0, none⟩ (.bool true)) := below_set (H5.out.1.G.D.B.trans (HE.out.2.1.mono (by have := HLw.out; omega))) (by have := HAL.out.kw; omega)
            refine ⟨.bool true, ?_, rfl, (hB2.trans (belowK_b (w := w5) H5.out.1.G.D.B.size _ D2 _ _ HE.out.2.2.2.1 hk2 rfl rfl)).trans (belowK_b (w := w1) HW1.out.size _ D _ _ H5.out.2.2.2.2.2.2.2 hk1b rfl rfl)⟩
            have hc3 := hb3.cell
            clear hk2 hk1 hk1b hb3 hB2 c18 c3 c5 f6 c6
            simp [results, go_sem, hc3]
set_option maxRecDepth 100000 in
set_option maxHeartbeats 8000000 in
theorem law_ok (A0 : Option Addr) (c0 : Nat) (sz : List Int) (fr0 st0 : Int) (w : World) (hcs : sz.length ≤ c0) (hCs : Kd.C (Kd.int .i64) w A0 sz.length sz) (hws : ∀ x ∈ sz, (Lit.int .i64 x).wf = true) (hf : (Lit.int .i64 fr0).wf = true) (hst : (Lit.int .i64 st0).wf = true) :
    Calls Try.prog 12 #[.slice A0 sz.length c0, .int .i64 fr0, .int .i64 st0] w fun e w' => e = .returned (.bool true) ∧ Below w.heap.size w w' := by
  by_cases hl : sz.length ≤ 12
  · have e1 := Bits.and_255 fr0
    have e2 := Bits.and_7 st0
    exact callsIn_wide.1 (law_in A0 c0 sz fr0 st0 w hcs hCs hl (fr0 % 256).toNat (st0 % 8).toNat (by rw [e1]; omega) (by rw [e2]; omega) (by omega))
  · have hl2 := hCs.2.1
    have t0 : decide (12 < sz.length) = true := decide_eq_true (by omega)
    have t1 : decide ((12 : Int) < (sz.length : Int)) = true := decide_eq_true (by omega)
    obtain ⟨n, hn⟩ : ∃ n, n = sz.length := ⟨_, rfl⟩
    rw [← hn] at t0 t1 ⊢
    clear hCs hws hf hst hl hl2 hcs hn
    refine (callsIn_wide (n := 4)).1 ?_
    refine callsIn_of_wp_marks Try.func12 rfl trivial ?_ rfl
    simp only [Try.ntmps12, List.size_toArray, List.length_cons, List.length_nil, Nat.reduceAdd, Nat.reduceSub, Array.replicate_succ, Array.replicate_zero, List.push_toArray, List.append_toArray, List.nil_append, List.cons_append]
    refine wpIn_wide.2 ?_
    go_wp2_with fail
    have B0 := below_alloc (below_alloc (below_alloc (Below.refl w.heap.size w) (.cells #[.slice A0 n c0] 66)) (.cells #[.int .i64 st0] 3)) (.cells #[.bool false] 4)
    have z1 : (w.alloc (.cells #[.slice A0 n c0] 66)).heap.size = w.heap.size + 1 := World.size_alloc _ _
    have z2 : ((w.alloc (.cells #[.slice A0 n c0] 66)).alloc (.cells #[.int .i64 st0] 3)).heap.size = w.heap.size + 1 + 1 := by rw [World.size_alloc, z1]
    have q3 : Boxed (((w.alloc (.cells #[.slice A0 n c0] 66)).alloc (.cells #[.int .i64 st0] 3)).alloc (.cells #[.bool false] 4)) w.heap.size 66 (.slice A0 n c0) := ((Boxed.new w 66 (.slice A0 n c0)).alloc _).alloc _
    have q6 : Boxed (((w.alloc (.cells #[.slice A0 n c0] 66)).alloc (.cells #[.int .i64 st0] 3)).alloc (.cells #[.bool false] 4)) (w.heap.size + 1 + 1) 4 (.bool false) := by
      have h := Boxed.new ((w.alloc (.cells #[.slice A0 n c0] 66)).alloc (.cells #[.int .i64 st0] 3)) 4 (.bool false)
      rw [z2] at h; exact h
    have HB := Aside0.mk (And.intro B0 (And.intro q3 q6))
    clear B0 z1 z2 q3 q6
    generalize (((w.alloc (.cells #[.slice A0 n c0] 66)).alloc (.cells #[.int .i64 st0] 3)).alloc (.cells #[.bool false] 4)) = w3 at HB ⊢
    refine (head_ok _).mono ?_
    rintro e w4 ⟨rfl, hb⟩
    have HB4 := Aside0.mk (show Below w.heap.size w w4 ∧ Boxed w4 w.heap.size 66 (.slice A0 n c0) ∧ Boxed w4 (w.heap.size + 1 + 1) 4 (.bool false) from ⟨below_step HB.out.1 hb, (hb.block _ HB.out.2.1.lt).trans HB.out.2.1, (hb.block _ HB.out.2.2.lt).trans HB.out.2.2⟩)
    have c3 := HB4.out.2.1.cell
    have c6 := HB4.out.2.2.cell
    have f6 := HB4.out.2.2.frozen
    clear hb HB
    go_wp2
    have hb3 := HB4.out.2.2.set (.bool true)
    have hB2 : Below w.heap.size w (w4.setCell ⟨w.heap.size + 1 + 1, 0, none⟩ (.bool true)) := below_set HB4.out.1 (by omega)
    have hc3 := hb3.cell
    refine ⟨.bool true, ?_, rfl, hB2⟩
    clear hb3 hB2 c3 c6 f6
    simp [results, go_sem, hc3]
end WalAlls
end Go.Proofs.Ytihmfccpgahmaaa.Wal
