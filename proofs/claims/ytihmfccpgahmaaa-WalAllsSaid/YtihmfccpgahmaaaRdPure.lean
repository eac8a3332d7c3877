/- The reader of package num as plain functions: what it holds, what each of its methods tells and leaves. No conditions. -/
import Derived.OpenShut
import Derived.Laws.BytesArg
import Derived.Laws.BitsLemmas
namespace Go.Proofs.Ytihmfccpgahmaaa.Q
open Go

/-- What a reader holds: the bytes that are left, and why nothing can be read. -/
structure RdS where
  b : List Int
  e : Int

def bytB (l : List Int) : Bool := l.all fun x => decide (0 ≤ x) && decide (x < 256)

/-- The next number, from byte i on; acc: what was read. -/
def rgo (most : Int) : Nat → Int → List Int → Int × RdS
  | _, _, [] => (0, ⟨[], 6⟩)
  | i, acc, c :: rest => if (i = 9 ∧ 1 < c) ∨ (0 < i ∧ c = 0) then (0, ⟨[], 2⟩) else
      if 128 ≤ c then rgo most (i + 1) (acc + c % 128 * 128 ^ i) rest
      else if most < acc + c % 128 * 128 ^ i then (0, ⟨[], 3⟩) else (acc + c % 128 * 128 ^ i, ⟨rest, 0⟩)

def rnum (s : RdS) (most : Int) : Int × RdS := if s.e = 0 then rgo most 0 0 s.b else (0, s)

def num_Read.f (l : List Int) : Option RdS := if bytB l = true then some ⟨l, 0⟩ else none
def num_Reader_Num.f (s : RdS) (most : Int) : Option (Int × RdS) := some (rnum s most)
def num_Reader_Err.f (s : RdS) : Option (Int × RdS) := some (s.e, s)
def num_Reader_Left.f (s : RdS) : Option (Int × RdS) := some ((s.b.length : Int), s)
def num_Reader_End.f (s : RdS) : Option (Int × RdS) := some (if s.e = 0 then (if s.b = [] then 0 else 2) else s.e, s)
def rtext (s : RdS) (most : Int) : ByteArray × RdS :=
  let p := rnum s (if 0 < most then most else 0)
  if p.2.e = 0 then (if (p.2.b.length : Int) < p.1 then (⟨#[]⟩, ⟨[], 6⟩) else (strOfNums (p.2.b.take p.1.toNat), ⟨p.2.b.drop p.1.toNat, 0⟩)) else (⟨#[]⟩, p.2)
def num_Reader_Text.f (s : RdS) (most : Int) : Option (ByteArray × RdS) := if -9223372036854775808 ≤ most ∧ most ≤ 9223372036854775807 then some (rtext s most) else none

section
variable {most acc x : Int} {j : Nat} {t : List Int}
theorem rgo_short : rgo most j acc [] = (0, ⟨[], 6⟩) := by simp only [rgo]
theorem rgo_bad (h : (j = 9 ∧ 1 < x) ∨ (0 < j ∧ x = 0)) : rgo most j acc (x :: t) = (0, ⟨[], 2⟩) := by simp only [rgo]; rw [if_pos h]
theorem rgo_more (h : ¬ ((j = 9 ∧ 1 < x) ∨ (0 < j ∧ x = 0))) (h2 : 128 ≤ x) : rgo most j acc (x :: t) = rgo most (j + 1) (acc + x % 128 * 128 ^ j) t := by rw [rgo]; rw [if_neg h, if_pos h2]
theorem rgo_many (h : ¬ ((j = 9 ∧ 1 < x) ∨ (0 < j ∧ x = 0))) (h2 : x < 128) (h3 : most < acc + x % 128 * 128 ^ j) : rgo most j acc (x :: t) = (0, ⟨[], 3⟩) := by rw [rgo]; rw [if_neg h, if_neg (by omega), if_pos h3]
theorem rgo_done (h : ¬ ((j = 9 ∧ 1 < x) ∨ (0 < j ∧ x = 0))) (h2 : x < 128) (h3 : ¬ most < acc + x % 128 * 128 ^ j) : rgo most j acc (x :: t) = (acc + x % 128 * 128 ^ j, ⟨t, 0⟩) := by rw [rgo]; rw [if_neg h, if_neg (by omega), if_neg h3]
end

theorem wraps_u64 (n : Int) (h₀ : 0 ≤ n) (h₁ : n < 2 ^ 64) : IntKind.u64.wrap n = n := by
  simp [IntKind.wrap, IntKind.bits, IntKind.signed]; omega

theorem pow7 (j : Nat) : (128 : Nat) ^ j = 2 ^ (7 * j) := by rw [show (128 : Nat) = 2 ^ 7 from rfl, ← Nat.pow_mul]

/-- A number with seven bits more. -/
theorem or_shift {acc x : Int} {j : Nat} (h0 : 0 ≤ acc) (h1 : acc < 128 ^ j) (hj : j ≤ 9) (x0 : 0 ≤ x) (x1 : x < 256) (h9 : j = 9 → x ≤ 1) :
    bits .or .u64 acc (IntKind.u64.wrap (IntKind.u64.wrap (bits .and .u8 x 127) * 2 ^ (7 * j))) = acc + x % 128 * 128 ^ j := by
  obtain ⟨a, rfl⟩ := Int.eq_ofNat_of_zero_le h0
  obtain ⟨b, rfl⟩ := Int.eq_ofNat_of_zero_le x0
  have e1 : bits .and .u8 (b : Int) 127 = ((b % 128 : Nat) : Int) := by
    have := bits_mask .u8 8 (by decide) wraps_u8 7 (by decide) (b : Int) (by omega) (by omega)
    simpa using this
  have hm : b % 128 < 128 := Nat.mod_lt _ (by decide)
  have ha : a < 2 ^ (7 * j) := by rw [← pow7]; exact_mod_cast h1
  have e2 : IntKind.u64.wrap ((b % 128 : Nat) : Int) = ((b % 128 : Nat) : Int) := wraps_u64 _ (by omega) (by omega)
  have hb : b % 128 * 2 ^ (7 * j) + a < 2 ^ 64 := by
    rcases Nat.lt_or_ge j 9 with h | h
    · have h2 : 2 ^ (7 * j) ≤ 2 ^ 56 := Nat.pow_le_pow_right (by decide) (by omega)
      have h3 : b % 128 * 2 ^ (7 * j) ≤ 127 * 2 ^ (7 * j) := Nat.mul_le_mul_right _ (by omega)
      have h4 : (2 : Nat) ^ 56 * 128 = 2 ^ 63 := by decide
      have h5 : (2 : Nat) ^ 63 < 2 ^ 64 := by decide
      omega
    · obtain rfl : j = 9 := by omega
      have := h9 rfl
      have h3 : b % 128 * 2 ^ (7 * 9) ≤ 1 * 2 ^ (7 * 9) := Nat.mul_le_mul_right _ (by omega)
      have h4 : (2 : Nat) ^ (7 * 9) + 2 ^ (7 * 9) = 2 ^ 64 := by decide
      omega
  have c2 : ((2 : Int) ^ (7 * j)) = ((2 ^ (7 * j) : Nat) : Int) := by simp
  have e3 : IntKind.u64.wrap (((b % 128 : Nat) : Int) * 2 ^ (7 * j)) = ((b % 128 * 2 ^ (7 * j) : Nat) : Int) := by
    rw [c2, ← Int.natCast_mul]
    exact wraps_u64 _ (by omega) (by exact_mod_cast (by omega : b % 128 * 2 ^ (7 * j) < 2 ^ 64))
  rw [e1, e2, e3, (bits_nat .u64 64 (by decide) wraps_u64 a (b % 128 * 2 ^ (7 * j)) (by omega) (by omega)).2]
  have e4 : a ||| b % 128 * 2 ^ (7 * j) = a + b % 128 * 2 ^ (7 * j) := by
    rw [Nat.or_comm, ← Nat.shiftLeft_eq, ← Nat.shiftLeft_add_eq_or_of_lt ha]
    omega
  rw [e4]
  have c3 : ((128 : Int) ^ j) = ((2 ^ (7 * j) : Nat) : Int) := by rw [← pow7]; simp
  rw [c3, Int.natCast_add, Int.natCast_mul]
  rfl


theorem rgo_range {most : Int} : ∀ (l : List Int) (j : Nat) (acc : Int), j ≤ 9 → 0 ≤ acc → acc < 128 ^ j → (∀ x ∈ l, 0 ≤ x ∧ x < 256) → 0 ≤ (rgo most j acc l).1 ∧ (rgo most j acc l).1 < 18446744073709551616
  | [], j, acc, _, _, _, _ => by rw [rgo_short]; exact ⟨Int.le_refl _, by omega⟩
  | x :: t, j, acc, hj, h0, h1, hy => by
    have hx := hy x (List.mem_cons_self ..)
    have ht : ∀ y ∈ t, 0 ≤ y ∧ y < 256 := fun y hm => hy y (List.mem_cons_of_mem _ hm)
    by_cases hbad : (j = 9 ∧ 1 < x) ∨ (0 < j ∧ x = 0)
    · rw [rgo_bad hbad]; exact ⟨Int.le_refl _, by omega⟩
    · have hp : (0 : Int) < 128 ^ j := Int.pow_pos (by decide)
      have hp2 : 0 ≤ x % 128 * 128 ^ j := Int.mul_nonneg (by omega) (by omega)
      have hp3 : x % 128 * 128 ^ j ≤ 127 * 128 ^ j := Int.mul_le_mul_of_nonneg_right (by omega) (by omega)
      by_cases hc : 128 ≤ x
      · rw [rgo_more hbad hc]
        exact rgo_range t (j + 1) _ (by omega) (by omega) (by rw [Int.pow_succ]; omega) ht
      · by_cases hm : most < acc + x % 128 * 128 ^ j
        · rw [rgo_many hbad (by omega) hm]; exact ⟨Int.le_refl _, by omega⟩
        · rw [rgo_done hbad (by omega) hm]
          refine ⟨by simp only; omega, ?_⟩
          simp only
          rcases Nat.lt_or_ge j 9 with h9 | h9
          · have e1 : (128 : Int) ^ (j + 1) ≤ 128 ^ 9 := by
              have : (128 : Nat) ^ (j + 1) ≤ 128 ^ 9 := Nat.pow_le_pow_right (by decide) (by omega)
              exact_mod_cast this
            have e2 : (128 : Int) ^ 9 = 9223372036854775808 := by decide
            rw [Int.pow_succ] at e1
            omega
          · obtain rfl : j = 9 := by omega
            have e2 : (128 : Int) ^ 9 = 9223372036854775808 := by decide
            rw [e2] at h1 hp3 ⊢
            have : x % 128 ≤ 1 := by omega
            omega

theorem rnum_range {s : RdS} {most : Int} (hy : ∀ x ∈ s.b, 0 ≤ x ∧ x < 256) : 0 ≤ (rnum s most).1 ∧ (rnum s most).1 < 18446744073709551616 := by
  unfold rnum
  split
  · exact rgo_range s.b 0 0 (by omega) (Int.le_refl _) (by simp) hy
  · exact ⟨Int.le_refl _, by simp only; omega⟩

end Go.Proofs.Ytihmfccpgahmaaa.Q
