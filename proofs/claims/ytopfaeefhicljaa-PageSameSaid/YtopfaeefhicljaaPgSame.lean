/- Proved: PageSame answers true: whether two pages are the same: each field counts; a clone is the same, and apart. No conditions beyond the given statement's. -/
import Derived.Test.YtopfaeefhicljaaPgW
import Derived.Test.YtopfaeefhicljaaPgS
namespace Go.Proofs.Ytopfaeefhicljaa.PgSame
open Go Go.RowKit Go.Proofs.Ytopfaeefhicljaa.Q Go.Proofs.YtopfaeefhicljaaW.PrintWords Go.Proofs.YtopfaeefhicljaaW.PrintLast Go.Proofs.Ytopfaeefhicljaa.Leb Go.Proofs.Ytopfaeefhicljaa.Str
set_option linter.unusedVariables false
set_option linter.unusedSimpArgs false

theorem same_f (k : Nat) (p q : PgV) (hk : 1001 ≤ k) (h1 : p.keys.length ≤ 1000) (h2 : p.vals.length ≤ 1000) (h3 : p.kids.length ≤ 1000) :
    page_Page_Same.f k p.kind p.keys p.vals p.kids p.root p.next p.size p.idle q.kind q.keys q.vals q.kids q.root q.next q.size q.idle = some (sameB p q) := by
  unfold page_Page_Same.f
  rw [eqs_f k _ _ (by omega) (by omega), eqs_f k _ _ (by omega) (by omega), eqi_f k _ _ (by omega) (by omega)]
  simp only [Option.bind_some, ite_b]
  unfold sameB
  rw [Option.some.injEq, Bool.eq_iff_iff]
  simp only [Bool.and_eq_true, decide_eq_true_eq, beq_iff_eq]

theorem wrap_ne (n : Int) (h : -9223372036854775808 ≤ n) (h2 : n < 9223372036854775808) : wrap64 (n + 1) ≠ n := by
  unfold wrap64; omega

theorem and_mask (i : Int) (m : Nat) (hm : m < 9223372036854775808) : 0 ≤ bits .and .i64 i (m : Int) := by
  have hb' : m % 2 ^ IntKind.i64.bits = m := Nat.mod_eq_of_lt (by simp [IntKind.bits]; omega)
  have hq : (BitVec.ofInt IntKind.i64.bits i).toNat &&& m ≤ m := Nat.and_le_right
  simp only [bits, BitVec.ofInt_natCast, BitVec.toNat_and, BitVec.toNat_ofNat, hb']
  rw [IntKind.wrap_i64]
  omega

theorem no_same {p q : PgV} (h : p ≠ q) : sameB p q = false := by
  rcases Bool.eq_false_or_eq_true (sameB p q) with h2 | h2
  · exact absurd ((sameB_iff p q).1 h2) h
  · exact h2

/-- Of two unlike pages neither is the same as the other. -/
theorem both_ways (k : Nat) (p q : PgV) (hk : 1001 ≤ k) (h1 : p.keys.length ≤ 1000) (h2 : p.vals.length ≤ 1000) (h3 : p.kids.length ≤ 1000) (h4 : q.keys.length ≤ 1000) (h5 : q.vals.length ≤ 1000) (h6 : q.kids.length ≤ 1000) (h : p ≠ q) :
    ((page_Page_Same.f k p.kind p.keys p.vals p.kids p.root p.next p.size p.idle q.kind q.keys q.vals q.kids q.root q.next q.size q.idle).bind fun t1 => if t1 = true then (some false) else ((page_Page_Same.f k q.kind q.keys q.vals q.kids q.root q.next q.size q.idle p.kind p.keys p.vals p.kids p.root p.next p.size p.idle).bind fun t2 => some (!t2))) = some true := by
  rw [same_f k p q hk h1 h2 h3, no_same h, Option.bind_some, if_neg (by simp), same_f k q p hk h4 h5 h6, no_same (Ne.symm h), Option.bind_some]
  rfl

structure Wp (p : PgV) : Prop where
  k : -9223372036854775808 ≤ p.kind ∧ p.kind < 9223372036854775808
  r : -9223372036854775808 ≤ p.root ∧ p.root < 9223372036854775808
  x : -9223372036854775808 ≤ p.next ∧ p.next < 9223372036854775808
  s : -9223372036854775808 ≤ p.size ∧ p.size < 9223372036854775808
  i : -9223372036854775808 ≤ p.idle ∧ p.idle < 9223372036854775808
  l : p.keys.length ≤ 20 ∧ p.vals.length ≤ 20 ∧ p.kids.length ≤ 20
  z : ∀ s ∈ p.keys, s.size ≤ 140737488351232

theorem snoc_ne {α : Type} (l : List α) (x : α) : l ≠ l ++ [x] := fun h => by
  have := congrArg List.length h
  simp at this

theorem x_ne (s : ByteArray) : s ++ (⟨#[120]⟩ : ByteArray) ≠ s := fun h => by
  have := congrArg ByteArray.size h
  rw [ByteArray.size_append] at this
  have e : (⟨#[120]⟩ : ByteArray).size = 1 := rfl
  omega

theorem j1_ok (k : Nat) (p : PgV) (a : Int) (b : Bool) (hk : 1002 ≤ k) (hp : Wp p) (ha : 0 ≤ a) (hb : b = false → a < p.keys.length) :
    dockmasterlaw06_PageSame.j1 k a b p.kind p.keys p.vals p.kids p.root p.next p.size p.idle p.kind p.keys p.vals p.kids p.root p.next p.size p.idle = some true := by
  obtain ⟨k, rfl⟩ : ∃ m, k = m + 1 := ⟨k - 1, by omega⟩
  simp only [dockmasterlaw06_PageSame.j1]
  cases b
  · have hlt := hb rfl
    obtain ⟨a, rfl⟩ := Int.eq_ofNat_of_zero_le ha
    have hl : a < p.keys.length := by omega
    have e1 : rdOf ByteArray.empty p.keys (a : Int) = p.keys.getD a ByteArray.empty := by simp [rdOf]
    have hz := hp.z _ (getD_mem p.keys a ByteArray.empty hl)
    rw [if_neg (by simp), if_pos (by omega), if_pos (by omega), e1, if_pos (by omega), if_pos (by omega), if_pos trivial, Int.toNat_natCast]
    have hll := hp.l
    have := same_f k p ⟨p.kind, p.keys.set a (p.keys.getD a ByteArray.empty ++ (⟨#[120]⟩ : ByteArray)), p.vals, p.kids, p.root, p.next, p.size, p.idle⟩ (by omega) (by omega) (by omega) (by omega)
    dsimp only at this
    rw [this, no_same, Option.bind_some]
    · rfl
    · intro h
      have h2 := congrArg PgV.keys h
      dsimp only at h2
      have h3 := congrArg (fun l => l.getD a ByteArray.empty) h2
      have h4 : (p.keys.set a (p.keys.getD a ByteArray.empty ++ (⟨#[120]⟩ : ByteArray))).getD a ByteArray.empty = p.keys.getD a ByteArray.empty ++ (⟨#[120]⟩ : ByteArray) := by
        rw [List.getD_eq_getElem?_getD, List.getElem?_set_self hl]
        rfl
      rw [h4] at h3
      exact x_ne _ h3.symm
  · rw [if_pos rfl]

theorem j0_ok (k : Nat) (p : PgV) (a1 a2 : Int) (hk : 1010 ≤ k) (hp : Wp p) :
    dockmasterlaw06_PageSame.j0 k a1 a2 false p.kind p.keys p.vals p.kids p.root p.next p.size p.idle p.kind p.keys p.vals p.kids p.root p.next p.size p.idle = some true := by
  obtain ⟨k, rfl⟩ : ∃ m, k = m + 1 := ⟨k - 1, by omega⟩
  have hl := hp.l
  simp only [dockmasterlaw06_PageSame.j0]
  rw [if_neg (by simp)]
  have B := fun (q : PgV) (h4 : q.keys.length ≤ 1000) (h5 : q.vals.length ≤ 1000) (h6 : q.kids.length ≤ 1000) (h : p ≠ q) => both_ways k p q (by omega) (by omega) (by omega) (by omega) h4 h5 h6 h
  by_cases c8 : bits .and .i64 a1 8 = 8
  · rw [if_pos c8]
    exact B ⟨p.kind, p.keys, p.vals, p.kids, p.root, p.next, p.size, wrap64 (p.idle + 1)⟩ (by dsimp only; omega) (by dsimp only; omega) (by dsimp only; omega) (fun h => wrap_ne _ hp.i.1 hp.i.2 (congrArg PgV.idle h).symm)
  rw [if_neg c8]
  by_cases c0 : bits .and .i64 a1 7 = 0
  · rw [if_pos c0]
    exact B ⟨wrap64 (p.kind + 1), p.keys, p.vals, p.kids, p.root, p.next, p.size, p.idle⟩ (by dsimp only; omega) (by dsimp only; omega) (by dsimp only; omega) (fun h => wrap_ne _ hp.k.1 hp.k.2 (congrArg PgV.kind h).symm)
  rw [if_neg c0]
  by_cases c1 : bits .and .i64 a1 7 = 1
  · rw [if_pos c1, if_pos (by omega), Option.bind_some]
    exact B ⟨p.kind, p.keys ++ [(⟨#[120]⟩ : ByteArray)], p.vals, p.kids, p.root, p.next, p.size, p.idle⟩ (by dsimp only; rw [List.length_append]; simp; omega) (by dsimp only; omega) (by dsimp only; omega) (fun h => snoc_ne _ _ (congrArg PgV.keys h))
  rw [if_neg c1]
  by_cases c2 : bits .and .i64 a1 7 = 2
  · rw [if_pos c2, if_pos (by omega), Option.bind_some]
    exact B ⟨p.kind, p.keys, p.vals ++ [(⟨#[120]⟩ : ByteArray)], p.kids, p.root, p.next, p.size, p.idle⟩ (by dsimp only; omega) (by dsimp only; rw [List.length_append]; simp; omega) (by dsimp only; omega) (fun h => snoc_ne _ _ (congrArg PgV.vals h))
  rw [if_neg c2]
  by_cases c3 : bits .and .i64 a1 7 = 3
  · rw [if_pos c3, if_pos (by omega), Option.bind_some]
    exact B ⟨p.kind, p.keys, p.vals, p.kids ++ [1], p.root, p.next, p.size, p.idle⟩ (by dsimp only; omega) (by dsimp only; omega) (by dsimp only; rw [List.length_append]; simp; omega) (fun h => snoc_ne _ _ (congrArg PgV.kids h))
  rw [if_neg c3]
  by_cases c4 : bits .and .i64 a1 7 = 4
  · rw [if_pos c4]
    exact B ⟨p.kind, p.keys, p.vals, p.kids, wrap64 (p.root + 1), p.next, p.size, p.idle⟩ (by dsimp only; omega) (by dsimp only; omega) (by dsimp only; omega) (fun h => wrap_ne _ hp.r.1 hp.r.2 (congrArg PgV.root h).symm)
  rw [if_neg c4]
  by_cases c5 : bits .and .i64 a1 7 = 5
  · rw [if_pos c5]
    exact B ⟨p.kind, p.keys, p.vals, p.kids, p.root, wrap64 (p.next + 1), p.size, p.idle⟩ (by dsimp only; omega) (by dsimp only; omega) (by dsimp only; omega) (fun h => wrap_ne _ hp.x.1 hp.x.2 (congrArg PgV.next h).symm)
  rw [if_neg c5]
  by_cases c6 : bits .and .i64 a1 7 = 6
  · rw [if_pos c6]
    exact B ⟨p.kind, p.keys, p.vals, p.kids, p.root, p.next, wrap64 (p.size + 1), p.idle⟩ (by dsimp only; omega) (by dsimp only; omega) (by dsimp only; omega) (fun h => wrap_ne _ hp.s.1 hp.s.2 (congrArg PgV.size h).symm)
  rw [if_neg c6]
  have hm := and_mask a2 31 (by omega)
  rw [show ((31 : Nat) : Int) = 31 from rfl] at hm
  by_cases ck : (p.keys.length : Int) = 0
  · rw [if_pos ck]
    exact j1_ok k p _ true (by omega) hp hm (fun h => by cases h)
  · rw [if_neg ck]
    refine j1_ok k p _ _ (by omega) hp hm (fun h => ?_)
    have := of_decide_eq_false h
    omega

theorem small_f (p : PgV) : dockmasterlaw06_small.f p.kind p.keys p.vals p.kids p.root p.next p.size p.idle = some (decide (p.keys.length ≤ 20 ∧ p.vals.length ≤ 20 ∧ p.kids.length ≤ 20)) := by
  unfold dockmasterlaw06_small.f
  simp only [ite_b]
  rw [Option.some.injEq, Bool.eq_iff_iff]
  simp only [Bool.and_eq_true, decide_eq_true_eq]
  omega

theorem law_f (p : PgV) (a1 a2 : Int) (hp : (p.keys.length ≤ 20 ∧ p.vals.length ≤ 20 ∧ p.kids.length ≤ 20) → Wp p) :
    dockmasterlaw06_PageSame.f 1100 p.kind p.keys p.vals p.kids p.root p.next p.size p.idle a1 a2 = some true := by
  unfold dockmasterlaw06_PageSame.f
  rw [head_p 1100 (by omega), Option.bind_some, if_pos rfl, small_f, Option.bind_some]
  by_cases hs : p.keys.length ≤ 20 ∧ p.vals.length ≤ 20 ∧ p.kids.length ≤ 20
  · rw [decide_eq_true hs, if_pos rfl]
    have w := hp hs
    unfold page_Page_Clone.f slices_Clone_string_string.f slices_Clone_int_int.f
    rw [if_pos (by omega), if_pos (by omega), if_pos (by omega)]
    simp only [Option.bind_some]
    have h := same_f 1100 p p (by omega) (by omega) (by omega) (by omega)
    rw [(sameB_iff p p).2 rfl] at h
    rw [h, Option.bind_some, if_pos rfl, Option.bind_some]
    exact j0_ok 1100 p a1 a2 (by omega) w
  · rw [decide_eq_false hs, if_neg (by simp)]

theorem law_ok (k1 : Int) (A1 : Option Addr) (c1 : Nat) (l1 : List ByteArray) (A2 : Option Addr) (c2 : Nat) (l2 : List ByteArray) (A3 : Option Addr) (c3 : Nat) (l3 : List Int) (r1 x1 s1 i1 : Int) (a n : Int) (w : World)
    (b1 : (Lit.int .i64 k1).wf = true) (h1 : l1.length ≤ c1) (C1 : Kd.C Kd.string w A1 l1.length l1) (z1 : ∀ x ∈ l1, x.size ≤ 140737488351232) (h2 : l2.length ≤ c2) (C2 : Kd.C Kd.string w A2 l2.length l2) (_ : ∀ x ∈ l2, x.size ≤ 140737488351232) (h3 : l3.length ≤ c3) (C3 : Kd.C (Kd.int .i64) w A3 l3.length l3) (_ : ∀ x ∈ l3, (Lit.int .i64 x).wf = true) (b2 : (Lit.int .i64 r1).wf = true) (b3 : (Lit.int .i64 x1).wf = true) (b4 : (Lit.int .i64 s1).wf = true) (b5 : (Lit.int .i64 i1).wf = true)
    (_ : (Lit.int .i64 a).wf = true) (_ : (Lit.int .i64 n).wf = true) :
    Calls Try.prog 5 #[.agg #[.int .i64 k1, .slice A1 l1.length c1, .slice A2 l2.length c2, .slice A3 l3.length c3, .int .i64 r1, .int .i64 x1, .int .i64 s1, .int .i64 i1], .int .i64 a, .int .i64 n] w fun e w' => e = .returned (.bool true) ∧ Below w.heap.size w w' := by
  have q1 := bounds_i64 b1
  have q2 := bounds_i64 b2
  have q3 := bounds_i64 b3
  have q4 := bounds_i64 b4
  have q5 := bounds_i64 b5
  refine dockmasterlaw06_PageSame.calls 1100 k1 A1 c1 l1 A2 c2 l2 A3 c3 l3 r1 x1 s1 i1 a n true w C1 h1 C2 h2 C3 h3 (law_f ⟨k1, l1, l2, l3, r1, x1, s1, i1⟩ a n (fun hl => ?_))
  exact ⟨⟨by dsimp only; omega, by dsimp only; omega⟩, ⟨by dsimp only; omega, by dsimp only; omega⟩, ⟨by dsimp only; omega, by dsimp only; omega⟩, ⟨by dsimp only; omega, by dsimp only; omega⟩, ⟨by dsimp only; omega, by dsimp only; omega⟩, hl, z1⟩

end Go.Proofs.Ytopfaeefhicljaa.PgSame
