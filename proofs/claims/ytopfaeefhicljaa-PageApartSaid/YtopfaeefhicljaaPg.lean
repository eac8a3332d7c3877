/- What the functions of package page do, walked: contracts in terms of the plain functions of PgEnc and PgDec; boxes of pages; when two are the same. Conditions: slices no longer than a thousand elements where two pages are compared. -/
import Derived.Test.YtopfaeefhicljaaP12
import Derived.Test.YtopfaeefhicljaaP8
import Derived.Test.YtopfaeefhicljaaP16
import Derived.Test.YtopfaeefhicljaaPgDec
import Derived.Test.YtopfaeefhicljaaWKept
namespace Go.Proofs.Ytopfaeefhicljaa.Q
open Go Go.RowKit Go.Proofs.YtopfaeefhicljaaW.PrintWords Go.Proofs.Ytopfaeefhicljaa.Leb Go.Proofs.Ytopfaeefhicljaa.Str
set_option linter.unusedVariables false
set_option linter.unusedSimpArgs false

/-! ### when two pages are the same -/
theorem eqs_l0 (a b : List ByteArray) (hl : a.length = b.length) (hs : a.length < 1000000) : ∀ (d i k : Nat), i + d = a.length → d < k →
    slices_Equal_string_string.l0 k a b (a.length : Int) (i : Int) = some (decide (a.drop i = b.drop i)) := by
  intro d
  induction d with
  | zero =>
    intro i k h hk
    obtain ⟨k, rfl⟩ : ∃ m, k = m + 1 := ⟨k - 1, by omega⟩
    simp only [slices_Equal_string_string.l0]
    rw [if_neg (by omega), List.drop_of_length_le (by omega), List.drop_of_length_le (by omega)]
    simp
  | succ d ih =>
    intro i k h hk
    obtain ⟨k, rfl⟩ : ∃ m, k = m + 1 := ⟨k - 1, by omega⟩
    simp only [slices_Equal_string_string.l0]
    have e1 : rdOf ByteArray.empty a (i : Int) = a.getD i ByteArray.empty := by simp [rdOf]
    have e2 : rdOf ByteArray.empty b (i : Int) = b.getD i ByteArray.empty := by simp [rdOf]
    rw [if_pos (by omega), if_pos (by omega), if_pos (by omega), if_pos (by omega), e1, e2, succ64 i (by omega), ih (i + 1) k (by omega) (by omega), drop_cons a i ByteArray.empty (by omega), drop_cons b i ByteArray.empty (by omega)]
    by_cases c : a.getD i ByteArray.empty = b.getD i ByteArray.empty
    · rw [if_pos (by rw [c]), c]
      simp
    · rw [if_neg (fun h => c (toList_inj.1 h))]
      simp only [List.cons.injEq, c, false_and, decide_false]

theorem eqs_f (k : Nat) (a b : List ByteArray) (hs : a.length < 1000000) (hk : a.length < k) : slices_Equal_string_string.f k a b = some (decide (a = b)) := by
  unfold slices_Equal_string_string.f
  by_cases c : a.length = b.length
  · rw [if_pos (by omega)]
    exact eqs_l0 a b c hs a.length 0 k (by omega) hk
  · rw [if_neg (by omega)]
    have : ¬ a = b := fun h => c (by rw [h])
    simp [this]

theorem eqi_l0 (a b : List Int) (hl : a.length = b.length) (hs : a.length < 1000000) : ∀ (d i k : Nat), i + d = a.length → d < k →
    slices_Equal_int_int.l0 k a b (a.length : Int) (i : Int) = some (decide (a.drop i = b.drop i)) := by
  intro d
  induction d with
  | zero =>
    intro i k h hk
    obtain ⟨k, rfl⟩ : ∃ m, k = m + 1 := ⟨k - 1, by omega⟩
    simp only [slices_Equal_int_int.l0]
    rw [if_neg (by omega), List.drop_of_length_le (by omega), List.drop_of_length_le (by omega)]
    simp
  | succ d ih =>
    intro i k h hk
    obtain ⟨k, rfl⟩ : ∃ m, k = m + 1 := ⟨k - 1, by omega⟩
    simp only [slices_Equal_int_int.l0]
    have e1 : rd a (i : Int) = a.getD i 0 := by simp [rd]
    have e2 : rd b (i : Int) = b.getD i 0 := by simp [rd]
    rw [if_pos (by omega), if_pos (by omega), if_pos (by omega), if_pos (by omega), e1, e2, succ64 i (by omega), ih (i + 1) k (by omega) (by omega), drop_cons a i 0 (by omega), drop_cons b i 0 (by omega)]
    by_cases c : a.getD i 0 = b.getD i 0
    · rw [if_pos c, c]
      simp
    · rw [if_neg c]
      simp only [List.cons.injEq, c, false_and, decide_false]

theorem eqi_f (k : Nat) (a b : List Int) (hs : a.length < 1000000) (hk : a.length < k) : slices_Equal_int_int.f k a b = some (decide (a = b)) := by
  unfold slices_Equal_int_int.f
  by_cases c : a.length = b.length
  · rw [if_pos (by omega)]
    exact eqi_l0 a b c hs a.length 0 k (by omega) hk
  · rw [if_neg (by omega)]
    have : ¬ a = b := fun h => c (by rw [h])
    simp [this]

def sameB (p q : PgV) : Bool := decide (p.kind = q.kind) && (decide (p.keys = q.keys) && (decide (p.vals = q.vals) && (decide (p.kids = q.kids) && (decide (p.root = q.root) && (decide (p.next = q.next) && (decide (p.size = q.size) && decide (p.idle = q.idle)))))))

theorem sameB_iff (p q : PgV) : sameB p q = true ↔ p = q := by
  obtain ⟨a1, a2, a3, a4, a5, a6, a7, a8⟩ := p
  obtain ⟨b1, b2, b3, b4, b5, b6, b7, b8⟩ := q
  unfold sameB
  simp only [Bool.and_eq_true, decide_eq_true_eq, PgV.mk.injEq]

theorem ite_bb (c b : Bool) : (if c = true then some b else some false) = some (c && b) := by cases c <;> rfl

theorem same_f (k : Nat) (p q : PgV) (hk : 1001 ≤ k) (h1 : p.keys.length ≤ 1000) (h2 : p.vals.length ≤ 1000) (h3 : p.kids.length ≤ 1000) :
    page_Page_Same.f k p.kind p.keys p.vals p.kids p.root p.next p.size p.idle q.kind q.keys q.vals q.kids q.root q.next q.size q.idle = some (sameB p q) := by
  unfold page_Page_Same.f
  rw [eqs_f k _ _ (by omega) (by omega), eqs_f k _ _ (by omega) (by omega), eqi_f k _ _ (by omega) (by omega)]
  simp only [Option.bind_some, ite_b]
  unfold sameB
  rw [Option.some.injEq, Bool.eq_iff_iff]
  simp only [Bool.and_eq_true, decide_eq_true_eq, beq_iff_eq]

/-! ### a page in memory -/
def PgV.lay (p : PgV) (A1 : Option Addr) (c1 : Nat) (A2 : Option Addr) (c2 : Nat) (A3 : Option Addr) (c3 : Nat) : Value :=
  .agg #[.int .i64 p.kind, .slice A1 p.keys.length c1, .slice A2 p.vals.length c2, .slice A3 p.kids.length c3, .int .i64 p.root, .int .i64 p.next, .int .i64 p.size, .int .i64 p.idle]
/-- A page's slices are read. -/
structure PgR (w : World) (p : PgV) (A1 : Option Addr) (c1 : Nat) (A2 : Option Addr) (c2 : Nat) (A3 : Option Addr) (c3 : Nat) : Prop where
  r1 : Kd.C Kd.string w A1 p.keys.length p.keys
  l1 : p.keys.length ≤ c1
  r2 : Kd.C Kd.string w A2 p.vals.length p.vals
  l2 : p.vals.length ≤ c2
  r3 : Kd.C (Kd.int .i64) w A3 p.kids.length p.kids
  l3 : p.kids.length ≤ c3
theorem PgR.below {w w1 : World} {p : PgV} {A1 A2 A3 : Option Addr} {c1 c2 c3 : Nat} (h : PgR w p A1 c1 A2 c2 A3 c3) (hb : Below w.heap.size w w1) : PgR w1 p A1 c1 A2 c2 A3 c3 :=
  ⟨Kd.C_below h.r1 hb, h.l1, Kd.C_below h.r2 hb, h.l2, Kd.C_below h.r3 hb, h.l3⟩
/-- A box of a page. -/
structure PBox (p : PgV) (A1 : Option Addr) (c1 : Nat) (A2 : Option Addr) (c2 : Nat) (A3 : Option Addr) (c3 : Nat) (k : Nat) (W : World) : Prop where
  lt : k < W.heap.size
  d0 : W.cell? ⟨k, 0, none⟩ = some (.int .i64 p.kind)
  d1 : W.cell? ⟨k, 1, none⟩ = some (.slice A1 p.keys.length c1)
  d2 : W.cell? ⟨k, 2, none⟩ = some (.slice A2 p.vals.length c2)
  d3 : W.cell? ⟨k, 3, none⟩ = some (.slice A3 p.kids.length c3)
  d4 : W.cell? ⟨k, 4, none⟩ = some (.int .i64 p.root)
  d5 : W.cell? ⟨k, 5, none⟩ = some (.int .i64 p.next)
  d6 : W.cell? ⟨k, 6, none⟩ = some (.int .i64 p.size)
  d7 : W.cell? ⟨k, 7, none⟩ = some (.int .i64 p.idle)
section
variable {p : PgV} {A1 A2 A3 : Option Addr} {c1 c2 c3 k : Nat}
theorem PBox.below {W W1 : World} (h : PBox p A1 c1 A2 c2 A3 c3 k W) (hb : Below W.heap.size W W1) : PBox p A1 c1 A2 c2 A3 c3 k W1 := by
  have := hb.size
  have hl := h.lt
  have f : ∀ j, W1.cell? ⟨k, j, none⟩ = W.cell? ⟨k, j, none⟩ := fun j => hb.cell (p := ⟨k, j, none⟩) (by simp; omega)
  exact ⟨by omega, by rw [f]; exact h.d0, by rw [f]; exact h.d1, by rw [f]; exact h.d2, by rw [f]; exact h.d3, by rw [f]; exact h.d4, by rw [f]; exact h.d5, by rw [f]; exact h.d6, by rw [f]; exact h.d7⟩
end
theorem PBox.new (p : PgV) (A1 : Option Addr) (c1 : Nat) (A2 : Option Addr) (c2 : Nat) (A3 : Option Addr) (c3 : Nat) (w : World) :
    PBox p A1 c1 A2 c2 A3 c3 w.heap.size (w.alloc (.cells #[.int .i64 p.kind, .slice A1 p.keys.length c1, .slice A2 p.vals.length c2, .slice A3 p.kids.length c3, .int .i64 p.root, .int .i64 p.next, .int .i64 p.size, .int .i64 p.idle] 27)) := by
  have b1 : (w.alloc (.cells #[.int .i64 p.kind, .slice A1 p.keys.length c1, .slice A2 p.vals.length c2, .slice A3 p.kids.length c3, .int .i64 p.root, .int .i64 p.next, .int .i64 p.size, .int .i64 p.idle] 27)).heap[w.heap.size]? = some (.cells #[.int .i64 p.kind, .slice A1 p.keys.length c1, .slice A2 p.vals.length c2, .slice A3 p.kids.length c3, .int .i64 p.root, .int .i64 p.next, .int .i64 p.size, .int .i64 p.idle] 27) := blk_new w _
  exact ⟨by simp, (blk_cell b1 0).trans rfl, (blk_cell b1 1).trans rfl, (blk_cell b1 2).trans rfl, (blk_cell b1 3).trans rfl, (blk_cell b1 4).trans rfl, (blk_cell b1 5).trans rfl, (blk_cell b1 6).trans rfl, (blk_cell b1 7).trans rfl⟩

/-- Bytes that are read. -/
structure Cs (w : World) (A : Option Addr) (c : Nat) (l : List Int) : Prop where
  le : l.length ≤ c
  C : Kd.C (Kd.int .u8) w A l.length l

theorem Cs.step {w w' : World} {A : Option Addr} {c : Nat} {l : List Int} (h : Cs w A c l) (hb : Below w.heap.size w w') : Cs w' A c l := ⟨h.le, Kd.C_below h.C hb⟩
theorem Cs.conv {w W : World} {A : Option Addr} {c : Nat} {l : List Int} (h : Cs w A c l) (hW : Below w.heap.size w W) : (convert 28 9 (.slice A l.length c)).run Try.prog W = .ok (.string (strOfNums l)) W := by
  have := conv_take h.C hW c (Nat.le_refl _)
  rw [List.take_length] at this
  exact this

theorem undrew {w w' : World} (h : Below w.drew.heap.size w.drew w') : Below w.heap.size w w' := ⟨h.os, h.tape, h.output, h.size, h.block⟩
theorem undrewN {w w' : World} {n : Nat} (h : Below (w.drewN n).heap.size (w.drewN n) w') : Below w.heap.size w w' := ⟨h.os, h.tape, h.output, h.size, h.block⟩
theorem drewn (w : World) (n : Nat) : Below w.heap.size w (w.drewN n) := pw_below_drewN (Below.refl _ _) n

theorem cs_of {w' : World} {base : Nat} {ok : Nat → Prop} {v : Value} {l : List Int} (h : Kd.R (Kd.int .u8) 5 w' base ok v l) : ∃ A c, v = .slice A l.length c ∧ Cs w' A c l := by
  obtain ⟨A, c, he, hl, hC⟩ := Kd.R_reads h
  exact ⟨A, c, he, hl, hC⟩


/-! ### contracts -/
section
variable {p : PgV} {A1 A2 A3 : Option Addr} {c1 c2 c3 : Nat} {w : World}
theorem enc_ok (hR : PgR w p A1 c1 A2 c2 A3 c3) (m : Nat) (hm : m < 18446744073709551616) (h : rightP p = true) :
    Calls Try.prog 16 #[p.lay A1 c1 A2 c2 A3 c3, .int .u64 (m : Int)] w fun e w' => ∃ A c, e = .returned (.tuple #[.slice A (encP p m []).length c, .int .i64 0]) ∧ Cs w' A c (encP p m []) ∧ Below w.heap.size w w' := by
  refine (page_Encode.calls 100 p.kind A1 c1 p.keys A2 c2 p.vals A3 c3 p.kids p.root p.next p.size p.idle (m : Int) (encP p m []) 0 w hR.r1 hR.l1 hR.r2 hR.l2 hR.r3 hR.l3 (enc_yes_p 100 p m (by omega) hm h)).mono ?_
  rintro e w' ⟨v0, rfl, hR, hB⟩
  obtain ⟨A, c, rfl, hs⟩ := cs_of hR
  exact ⟨A, c, rfl, hs, hB⟩
theorem enc_no (hR : PgR w p A1 c1 A2 c2 A3 c3) (m : Int) (h1 : p.keys.length ≤ 1000) (h2 : p.vals.length ≤ 1000) (h3 : p.kids.length ≤ 1000) (h : rightP p = false) :
    Calls Try.prog 16 #[p.lay A1 c1 A2 c2 A3 c3, .int .u64 m] w fun e w' => ∃ A c, e = .returned (.tuple #[.slice A 0 c, .int .i64 1]) ∧ Below w.heap.size w w' := by
  refine (page_Encode.calls 1001 p.kind A1 c1 p.keys A2 c2 p.vals A3 c3 p.kids p.root p.next p.size p.idle m [] 1 w hR.r1 hR.l1 hR.r2 hR.l2 hR.r3 hR.l3 (enc_no_p 1001 p m (by omega) (by omega) (by omega) (by omega) h)).mono ?_
  rintro e w' ⟨v0, rfl, hR, hB⟩
  obtain ⟨A, c, rfl, hs⟩ := cs_of hR
  exact ⟨A, c, rfl, hB⟩
theorem right_ok (hR : PgR w p A1 c1 A2 c2 A3 c3) (h1 : p.keys.length ≤ 1000) (h2 : p.vals.length ≤ 1000) (h3 : p.kids.length ≤ 1000) :
    Calls Try.prog 17 #[p.lay A1 c1 A2 c2 A3 c3] w fun e w' => e = .returned (.bool (rightP p)) ∧ Below w.heap.size w w' :=
  page_Page_Right.calls 1001 p.kind A1 c1 p.keys A2 c2 p.vals A3 c3 p.kids p.root p.next p.size p.idle (rightP p) w hR.r1 hR.l1 hR.r2 hR.l2 hR.r3 hR.l3 (pright_f 1001 p (by omega) (by omega) (by omega) (by omega))
theorem same_ok {q : PgV} {B1 B2 B3 : Option Addr} {e1 e2 e3 : Nat} (hR : PgR w p A1 c1 A2 c2 A3 c3) (hQ : PgR w q B1 e1 B2 e2 B3 e3) (h1 : p.keys.length ≤ 1000) (h2 : p.vals.length ≤ 1000) (h3 : p.kids.length ≤ 1000) :
    Calls Try.prog 20 #[p.lay A1 c1 A2 c2 A3 c3, q.lay B1 e1 B2 e2 B3 e3] w fun e w' => e = .returned (.bool (sameB p q)) ∧ Below w.heap.size w w' :=
  page_Page_Same.calls 1001 p.kind A1 c1 p.keys A2 c2 p.vals A3 c3 p.kids p.root p.next p.size p.idle q.kind B1 e1 q.keys B2 e2 q.vals B3 e3 q.kids q.root q.next q.size q.idle (sameB p q) w hR.r1 hR.l1 hR.r2 hR.l2 hR.r3 hR.l3 hQ.r1 hQ.l1 hQ.r2 hQ.l2 hQ.r3 hQ.l3 (same_f 1001 p q (by omega) h1 h2 h3)
def smallB (p : PgV) : Bool := decide (p.keys.length ≤ 20 ∧ p.vals.length ≤ 20 ∧ p.kids.length ≤ 20)
theorem small_ok (hR : PgR w p A1 c1 A2 c2 A3 c3) :
    Calls Try.prog 18 #[p.lay A1 c1 A2 c2 A3 c3] w fun e w' => e = .returned (.bool (smallB p)) ∧ Below w.heap.size w w' :=
  dockmasterlaw06_small.calls p.kind A1 c1 p.keys A2 c2 p.vals A3 c3 p.kids p.root p.next p.size p.idle (smallB p) w hR.r1 hR.l1 hR.r2 hR.l2 hR.r3 hR.l3 (by
    unfold dockmasterlaw06_small.f smallB
    simp only [ite_b]
    rw [Option.some.injEq, Bool.eq_iff_iff]
    simp only [Bool.and_eq_true, decide_eq_true_eq]
    omega)
end
theorem head_ok (w : World) : Calls Try.prog 15 #[] w fun e w' => e = .returned (.bool true) ∧ Below w.heap.size w w' := dockmasterlaw06_head.calls 100 true w (head_p 100 (by omega))

/-- What Decode answers, the page's slices being read behind it. -/
theorem dec_calls {A : Option Addr} {c : Nat} {l : List Int} {w : World} (hs : Cs w A c l) (q : PgV) (m e : Int) (h : page_Decode.f 200 l = some (q.kind, q.keys, q.vals, q.kids, q.root, q.next, q.size, q.idle, m, e)) :
    Calls Try.prog 23 #[.slice A l.length c] w fun en w' => ∃ A1 c1 A2 c2 A3 c3, en = .returned (.tuple #[q.lay A1 c1 A2 c2 A3 c3, .int .u64 m, .int .i64 e]) ∧ PgR w' q A1 c1 A2 c2 A3 c3 ∧ Below w.heap.size w w' := by
  refine (page_Decode.calls 200 A c l _ _ _ _ _ _ _ _ _ _ w hs.C hs.le h).mono ?_
  rintro en w' ⟨v1, v2, v3, rfl, h1, h2, h3, hB⟩
  obtain ⟨A1, c1, rfl, l1, r1⟩ := Kd.R_reads h1
  obtain ⟨A2, c2, rfl, l2, r2⟩ := Kd.R_reads h2
  obtain ⟨A3, c3, rfl, l3, r3⟩ := Kd.R_reads h3
  exact ⟨A1, c1, A2, c2, A3, c3, rfl, ⟨r1, l1, r2, l2, r3, l3⟩, hB⟩
def zeroV : PgV := ⟨0, [], [], [], 0, 0, 0, 0⟩

/-! ### unlike pages are unlike bytes -/
theorem encP_inj {p q : PgV} (hp : rightP p = true) (hq : rightP q = true) {a b : Nat} (h : encP p a [] = encP q b []) : p = q ∧ a = b := by
  unfold encP at h
  obtain ⟨h1, h2⟩ := leb_inj _ _ _ _ h
  obtain ⟨h3, h4⟩ := leb_inj _ _ _ _ h2
  refine ⟨?_, h3⟩
  have e : encP p 0 [] = encP q 0 [] := by unfold encP; rw [h1, h4]
  have lp := lens_p (rtP_of hp)
  have f1 := fun hx => dec_fwd_p 200 p 0 [] (by omega) hp (by omega) (by simp) hx
  have f2 := fun hx => dec_fwd_p 200 q 0 [] (by omega) hq (by omega) (by simp) hx
  by_cases hx : (encP p 0 []).length < 1152921504606846976
  · have g1 := f1 hx
    rw [e] at g1 hx
    rw [f2 hx] at g1
    unfold outP at g1
    injection g1 with g1
    simp only [Prod.mk.injEq] at g1
    obtain ⟨a1, a2, a3, a4, a5, a6, a7, a8, _⟩ := g1
    obtain ⟨b1, b2, b3, b4, b5, b6, b7, b8⟩ := p
    obtain ⟨d1, d2, d3, d4, d5, d6, d7, d8⟩ := q
    dsimp only at *
    subst a1 a2 a3 a4 a5 a6 a7 a8
    rfl
  · exfalso
    exact hx (by have := enc_small hp (m := 0) (by omega); omega)

end Go.Proofs.Ytopfaeefhicljaa.Q
