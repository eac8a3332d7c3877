/- Plain facts on numbers laid seven bits a byte: what Put lays, how long it is, that it can be told apart and read again. No conditions. -/
import Derived.Laws.BitsLemmas
namespace Go.Proofs.Ytihmfccpgahmaaa.Leb
open Go

/-- What Put lays of n. -/
def leb (n : Nat) : List Int := if n < 128 then [(n : Int)] else ((n % 128 + 128 : Nat) : Int) :: leb (n / 128)
termination_by n
decreasing_by omega

theorem leb_lt {n : Nat} (h : n < 128) : leb n = [(n : Int)] := by rw [leb, if_pos h]
theorem leb_ge {n : Nat} (h : 128 ≤ n) : leb n = ((n % 128 + 128 : Nat) : Int) :: leb (n / 128) := by rw [leb, if_neg (by omega)]

theorem leb_ne (n : Nat) : leb n ≠ [] := by
  rw [leb]; split <;> simp

theorem leb_pos (n : Nat) : 1 ≤ (leb n).length := by
  rw [leb]; split <;> simp

theorem leb_length (k : Nat) : ∀ n : Nat, n < 128 ^ k → (leb n).length ≤ max k 1 := by
  induction k with
  | zero => intro n h; rw [leb_lt (by simp at h; omega)]; simp
  | succ k ih =>
    intro n h
    by_cases c : n < 128
    · rw [leb_lt c]; simp
    · rw [leb_ge (by omega)]
      have := ih (n / 128) (by rw [Nat.pow_succ] at h; omega)
      have h2 : 1 ≤ k := by
        rcases Nat.eq_zero_or_pos k with rfl | h2
        · simp at h; omega
        · exact h2
      simp only [List.length_cons]; omega

theorem leb_ten {n : Nat} (h : n < 18446744073709551616) : (leb n).length ≤ 10 := by
  have := leb_length 10 n (by have : (128 : Nat) ^ 10 = 1180591620717411303424 := by decide
                              omega)
  omega

theorem leb_mono : ∀ (b a : Nat), a ≤ b → (leb a).length ≤ (leb b).length := by
  intro b
  induction b using Nat.strongRecOn with
  | _ b ih =>
    intro a h
    by_cases c : b < 128
    · rw [leb_lt c, leb_lt (by omega)]; simp
    · by_cases d : a < 128
      · rw [leb_lt d]; exact leb_pos b
      · rw [leb_ge (by omega : 128 ≤ b), leb_ge (by omega : 128 ≤ a)]
        have := ih (b / 128) (by omega) (a / 128) (by omega)
        simp only [List.length_cons]; omega

theorem leb_byte : ∀ (n : Nat), ∀ x ∈ leb n, 0 ≤ x ∧ x < 256 := by
  intro n
  induction n using Nat.strongRecOn with
  | _ n ih =>
    intro x hx
    by_cases c : n < 128
    · rw [leb_lt c] at hx; simp at hx; omega
    · rw [leb_ge (by omega)] at hx
      rcases List.mem_cons.mp hx with h | h
      · omega
      · exact ih (n / 128) (by omega) x h

/-- None begins another one, whatever stands behind. -/
theorem leb_inj : ∀ (a b : Nat) (s t : List Int), leb a ++ s = leb b ++ t → a = b ∧ s = t := by
  intro a
  induction a using Nat.strongRecOn with
  | _ a ih =>
    intro b s t h
    by_cases c : a < 128
    · by_cases d : b < 128
      · rw [leb_lt c, leb_lt d] at h
        simp at h; exact ⟨by omega, h.2⟩
      · rw [leb_lt c, leb_ge (by omega : 128 ≤ b)] at h
        simp at h; omega
    · by_cases d : b < 128
      · rw [leb_lt d, leb_ge (by omega : 128 ≤ a)] at h
        simp at h; omega
      · rw [leb_ge (by omega : 128 ≤ a), leb_ge (by omega : 128 ≤ b)] at h
        simp only [List.cons_append, List.cons.injEq] at h
        obtain ⟨h1, h2⟩ := h
        have := ih (a / 128) (by omega) (b / 128) s t h2
        exact ⟨by omega, this.2⟩

set_option maxRecDepth 100000 in
theorem or128 {x : Int} (h0 : 0 ≤ x) (h : x < 256) : Go.bits .or .u8 x 128 = x % 128 + 128 := by
  obtain ⟨a, rfl⟩ := Int.eq_ofNat_of_zero_le h0
  have ha : a < 256 := by omega
  have e : (Go.bits .or .u8 (a : Int) ((128 : Nat) : Int)) = ((a ||| 128 : Nat) : Int) := (bits_nat .u8 8 (by decide) wraps_u8 a 128 (by omega) (by omega)).2
  have f : ∀ x : Fin 256, (x.val ||| 128) = x.val % 128 + 128 := by decide
  have g := f ⟨a, ha⟩
  have e2 : Go.bits .or .u8 (a : Int) 128 = ((a ||| 128 : Nat) : Int) := e
  rw [e2]
  have g2 : (a ||| 128) = a % 128 + 128 := g
  rw [g2]; omega

theorem or128_leb {n : Nat} : Go.bits .or .u8 (((n : Nat) : Int) % 256) 128 = ((n % 128 + 128 : Nat) : Int) := by
  rw [or128 (by omega) (by omega)]; omega

end Go.Proofs.Ytihmfccpgahmaaa.Leb
