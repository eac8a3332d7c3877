/- Pages as plain data: what Right tells of a page, its bytes, and that the printed functions of package page answer so. Conditions: slices no longer than memory. -/
import Derived.Test.YtopfaeefhicljaaR2
import Derived.Test.YtopfaeefhicljaaR4
import Derived.Test.YtopfaeefhicljaaLeb
import Derived.Test.YtopfaeefhicljaaStr
namespace Go.Proofs.Ytopfaeefhicljaa.Q
open Go Go.RowKit Go.Proofs.YtopfaeefhicljaaW.PrintWords Go.Proofs.Ytopfaeefhicljaa.Leb Go.Proofs.Ytopfaeefhicljaa.Str
set_option linter.unusedVariables false
set_option linter.unusedSimpArgs false

structure PgV where
  kind : Int
  keys : List ByteArray
  vals : List ByteArray
  kids : List Int
  root : Int
  next : Int
  size : Int
  idle : Int

theorem ite_b (c : Prop) [Decidable c] (b : Bool) : (if c then some b else some false) = some (decide c && b) := by
  by_cases h : c <;> simp [h]
theorem wrap64_id (n : Int) (h : -9223372036854775808 ≤ n) (h2 : n < 9223372036854775808) : wrap64 n = n := by
  unfold wrap64; omega

/-! ### keys that rise -/
def riseAt (l : List ByteArray) (i : Nat) : Bool :=
  decide (1 ≤ (l.getD i ByteArray.empty).size) && (decide ((l.getD i ByteArray.empty).size ≤ 24) && (decide (i = 0) || Op.bytesLess (l.getD (i - 1) ByteArray.empty).toList (l.getD i ByteArray.empty).toList))
def riseB (l : List ByteArray) : Bool := (List.range' 0 l.length).all (riseAt l)

theorem toList_nil_iff (s : ByteArray) : s.toList = ([] : List UInt8) ↔ s.size < 1 := by
  have e : s.toList = s.data.toList := Lib.toList_data s
  rw [e]
  constructor
  · intro h
    have : s.data.toList.length = 0 := by rw [h]; rfl
    rw [data_length] at this
    omega
  · intro h
    apply List.eq_nil_of_length_eq_zero
    rw [data_length]
    omega

theorem rising_l0 (l : List ByteArray) (hl : l.length < 4611686018427387904) : ∀ (d i k : Nat), i + d = l.length → d < k →
    page_rising.l0 k l l (l.length : Int) (i : Int) = some ((List.range' i d).all (riseAt l)) := by
  intro d
  induction d with
  | zero =>
    intro i k h hk
    obtain ⟨k, rfl⟩ : ∃ m, k = m + 1 := ⟨k - 1, by omega⟩
    simp only [page_rising.l0]
    rw [if_neg (by omega)]
    rfl
  | succ d ih =>
    intro i k h hk
    obtain ⟨k, rfl⟩ : ∃ m, k = m + 1 := ⟨k - 1, by omega⟩
    simp only [page_rising.l0]
    rw [if_pos (by omega), if_pos (by omega), if_pos (by omega)]
    rw [List.range'_succ, List.all_cons]
    have e1 : rdOf ByteArray.empty l (i : Int) = l.getD i ByteArray.empty := by simp [rdOf]
    rw [e1]
    have n1 : wrap64 ((i : Int) + 1) = ((i + 1 : Nat) : Int) := by rw [wrap64_id _ (by omega) (by omega)]; omega
    rw [n1, ih (i + 1) k (by omega) (by omega)]
    generalize hy : l.getD i ByteArray.empty = y
    unfold riseAt
    rw [hy]
    by_cases h1 : y.size < 1
    · rw [if_pos ((toList_nil_iff y).2 h1)]
      simp [show y.size = 0 by omega]
    · rw [if_neg (fun h => h1 ((toList_nil_iff y).1 h))]
      by_cases h2 : (y.size : Int) > 24
      · rw [if_pos h2]
        have : ¬ y.size ≤ 24 := by omega
        simp [this]
      · rw [if_neg h2]
        have e3 : decide (1 ≤ y.size) = true := decide_eq_true (by omega)
        have e4 : decide (y.size ≤ 24) = true := decide_eq_true (by omega)
        rw [e3, e4, Bool.true_and, Bool.true_and]
        by_cases h3 : i = 0
        · subst h3
          rw [if_neg (by omega)]
          simp
        · rw [if_pos (by omega)]
          have n2 : wrap64 ((i : Int) - 1) = ((i - 1 : Nat) : Int) := by rw [wrap64_id _ (by omega) (by omega)]; omega
          rw [n2, if_pos (by omega), if_pos (by omega)]
          have e2 : rdOf ByteArray.empty l ((i - 1 : Nat) : Int) = l.getD (i - 1) ByteArray.empty := by simp [rdOf]
          rw [e2, decide_eq_false h3, Bool.false_or]
          generalize Op.bytesLess (l.getD (i - 1) ByteArray.empty).toList y.toList = b
          cases b
          · rw [if_neg (by simp)]; rfl
          · rw [if_pos rfl]; rfl

theorem rising_f (l : List ByteArray) (k : Nat) (hl : l.length < 4611686018427387904) (hk : l.length < k) : page_rising.f k l = some (riseB l) := by
  unfold page_rising.f riseB
  exact rising_l0 l hl l.length 0 k (by omega) hk

/-! ### Right -/
def noneB (p : PgV) : Bool := decide (p.root = 0 ∧ p.next = 0 ∧ p.size = 0 ∧ p.idle = 0)
def rightK (p : PgV) : Bool :=
  if p.kind = 1 then decide (p.keys.length ≤ 6 ∧ p.vals.length = p.keys.length ∧ p.kids.length = 0) && (noneB p && p.vals.all fun v => decide (v.size ≤ 48))
  else if p.kind = 2 then decide (2 ≤ p.kids.length ∧ p.kids.length ≤ 8 ∧ p.keys.length + 1 = p.kids.length ∧ p.vals.length = 0) && (noneB p && p.kids.all fun n => decide (0 ≤ n ∧ n < 65536))
  else if p.kind = 3 then decide (p.keys.length = 0 ∧ p.vals.length = 0 ∧ p.kids.length = 0 ∧ 0 ≤ p.root ∧ p.root < 65536 ∧ 0 ≤ p.next ∧ p.next < 65536 ∧ 0 ≤ p.size ∧ p.size ≤ 65536 ∧ 0 ≤ p.idle ∧ p.idle ≤ p.size)
  else if p.kind = 4 then decide (p.keys.length = 0 ∧ p.vals.length = 0 ∧ p.kids.length = 0 ∧ p.root = 0 ∧ 0 ≤ p.next ∧ p.next < 65536 ∧ p.size = 0 ∧ p.idle = 0)
  else false
def rightP (p : PgV) : Bool := riseB p.keys && rightK p

theorem not_any {α : Type} (l : List α) (p q : α → Bool) (h : ∀ x, q x = !p x) : (!l.any p) = l.all q := by
  induction l with
  | nil => rfl
  | cons x l ih => simp only [List.any_cons, List.all_cons, Bool.not_or, ih, h]

theorem in_f (n : Int) : page_in.f n = some (decide (0 ≤ n ∧ n < 65536)) := by
  unfold page_in.f
  rw [ite_b, Option.some.injEq, Bool.eq_iff_iff]
  simp

theorem right_j0 (k : Nat) (p : PgV) (x6 : Bool) (hk : 0 < k) (h6 : x6 = noneB p) (h1 : p.keys.length < 1152921504606846976) (h2 : p.vals.length < 1152921504606846976) (h3 : p.kids.length < 1152921504606846976) :
    page_Page_Right.j0 k (p.keys.length : Int) (p.vals.length : Int) (p.kids.length : Int) x6 p.kind p.keys p.vals p.kids p.root p.next p.size p.idle = some (rightK p) := by
  obtain ⟨k, rfl⟩ : ∃ m, k = m + 1 := ⟨k - 1, by omega⟩
  obtain ⟨kind, keys, vals, kids, root, next, size, idle⟩ := p
  dsimp only at *
  simp only [page_Page_Right.j0, in_f, Option.bind_some]
  unfold rightK
  dsimp only
  have w1 : wrap64 (wrap64 ((keys.length : Int) + vals.length) + kids.length) = (keys.length : Int) + vals.length + kids.length := by
    rw [wrap64_id ((keys.length : Int) + vals.length) (by omega) (by omega), wrap64_id _ (by omega) (by omega)]
  have w2 : wrap64 ((kids.length : Int) - 1) = (kids.length : Int) - 1 := wrap64_id _ (by omega) (by omega)
  rw [w1, w2]
  by_cases c1 : kind = 1
  · rw [if_pos c1, if_pos c1]
    simp only [slices_ContainsFunc_string_string.f, if_true, Option.bind_some, ite_b]
    rw [not_any vals (fun s => decide (48 < s.size)) (fun v => decide (v.size ≤ 48)) (fun x => by rw [Bool.eq_iff_iff]; simp), h6]
    rw [Option.some.injEq, Bool.eq_iff_iff]
    generalize noneB _ = b1
    generalize vals.all _ = b2
    cases b1 <;> cases b2 <;> simp only [Bool.and_eq_true, decide_eq_true_eq, Bool.false_eq_true, and_false, false_and, and_true, true_and] <;> omega
  · rw [if_neg c1, if_neg c1]
    by_cases c2 : kind = 2
    · rw [if_pos c2, if_pos c2]
      simp only [slices_ContainsFunc_int_int.f, if_true, Option.bind_some, ite_b]
      rw [not_any kids outB (fun n => decide (0 ≤ n ∧ n < 65536)) (fun x => by rw [Bool.eq_iff_iff]; simp [outB]), h6]
      rw [Option.some.injEq, Bool.eq_iff_iff]
      generalize noneB _ = b1
      generalize kids.all _ = b2
      cases b1 <;> cases b2 <;> simp only [Bool.and_eq_true, decide_eq_true_eq, Bool.false_eq_true, and_false, false_and, and_true, true_and] <;> omega
    · rw [if_neg c2, if_neg c2]
      by_cases c3 : kind = 3
      · rw [if_pos c3, if_pos c3]
        simp only [ite_b]
        rw [Option.some.injEq, Bool.eq_iff_iff]
        simp only [Bool.and_eq_true, decide_eq_true_eq, beq_iff_eq]
        omega
      · rw [if_neg c3, if_neg c3]
        by_cases c4 : kind = 4
        · rw [if_pos c4, if_pos c4]
          simp only [ite_b]
          rw [Option.some.injEq, Bool.eq_iff_iff]
          simp only [Bool.and_eq_true, decide_eq_true_eq, beq_iff_eq]
          omega
        · rw [if_neg c4, if_neg c4]

theorem pright_f (k : Nat) (p : PgV) (hk : p.keys.length < k) (h1 : p.keys.length < 1152921504606846976) (h2 : p.vals.length < 1152921504606846976) (h3 : p.kids.length < 1152921504606846976) :
    page_Page_Right.f k p.kind p.keys p.vals p.kids p.root p.next p.size p.idle = some (rightP p) := by
  unfold page_Page_Right.f
  rw [rising_f p.keys k (by omega) hk, Option.bind_some]
  unfold rightP
  have hj := right_j0 k p
  generalize riseB p.keys = b
  cases b
  · rw [if_neg (by simp)]; rfl
  · rw [if_pos rfl, Bool.true_and]
    by_cases c1 : p.root = 0
    · rw [if_pos c1]
      by_cases c2 : p.next = 0
      · rw [if_pos c2]
        by_cases c3 : p.size = 0
        · rw [if_pos c3]
          exact hj _ (by omega) (by unfold noneB; rw [Bool.eq_iff_iff]; simp [c1, c2, c3]) h1 h2 h3
        · rw [if_neg c3]
          exact hj _ (by omega) (by unfold noneB; simp [c3]) h1 h2 h3
      · rw [if_neg c2]
        exact hj _ (by omega) (by unfold noneB; simp [c2]) h1 h2 h3
    · rw [if_neg c1]
      exact hj _ (by omega) (by unfold noneB; simp [c1]) h1 h2 h3

end Go.Proofs.Ytopfaeefhicljaa.Q
