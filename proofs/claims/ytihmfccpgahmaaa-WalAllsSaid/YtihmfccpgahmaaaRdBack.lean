/- A reader reads again what was laid, and what it reads was laid so: no conditions beyond the numbers' bounds. -/
import Derived.Test.YtihmfccpgahmaaaLeb
import Derived.Test.YtihmfccpgahmaaaStr
import Derived.Test.YtihmfccpgahmaaaRdPure
namespace Go.Proofs.Ytihmfccpgahmaaa.Q
open Go Go.Proofs.Ytihmfccpgahmaaa.Str Go.Proofs.Ytihmfccpgahmaaa.Leb

theorem rgo_fwd {most : Int} : ∀ (n j : Nat) (acc : Int) (t : List Int), n * 128 ^ j < 18446744073709551616 → (0 < j → n ≠ 0) → acc + (n : Int) * 128 ^ j ≤ most →
    rgo most j acc (leb n ++ t) = (acc + (n : Int) * 128 ^ j, ⟨t, 0⟩) := by
  intro n
  induction n using Nat.strongRecOn with
  | _ n ih =>
    intro j acc t hn h0 hm
    have hj : n ≠ 0 → j ≤ 9 := by
      intro hz
      rcases Nat.lt_or_ge 9 j with h | h
      · have : (128 : Nat) ^ 10 ≤ 128 ^ j := Nat.pow_le_pow_right (by decide) h
        have h1 : 128 ^ j ≤ n * 128 ^ j := Nat.le_mul_of_pos_left _ (by omega)
        have : (128 : Nat) ^ 10 = 1180591620717411303424 := by decide
        omega
      · exact h
    by_cases c : n < 128
    · rw [leb_lt c, List.singleton_append]
      rw [rgo_done (x := (n : Int))]
      · rw [Int.emod_eq_of_lt (by omega) (by omega)]
      · rintro (⟨rfl, h⟩ | ⟨h, h2⟩)
        · have : (128 : Nat) ^ 9 = 9223372036854775808 := by decide
          omega
        · exact h0 h (by omega)
      · omega
      · rw [Int.emod_eq_of_lt (by omega) (by omega)]
        omega
    · rw [leb_ge (by omega), List.cons_append]
      have e1 : n = n / 128 * 128 + n % 128 := by omega
      have e2 : n / 128 * 128 ^ (j + 1) ≤ n * 128 ^ j := by
        rw [Nat.pow_succ, Nat.mul_comm (128 ^ j) 128, ← Nat.mul_assoc]
        exact Nat.mul_le_mul_right _ (by omega)
      have e3 : ((n / 128 : Nat) : Int) * 128 ^ (j + 1) + ((n % 128 : Nat) : Int) * 128 ^ j = (n : Int) * 128 ^ j := by
        have : (n : Int) = ((n / 128 : Nat) : Int) * 128 + ((n % 128 : Nat) : Int) := by omega
        rw [this, Int.pow_succ, Int.add_mul, Int.mul_assoc, Int.mul_comm (128 ^ j : Int) 128]
      rw [rgo_more (x := ((n % 128 + 128 : Nat) : Int))]
      · have e4 : ((n % 128 + 128 : Nat) : Int) % 128 = ((n % 128 : Nat) : Int) := by omega
        rw [e4, ih (n / 128) (by omega) (j + 1) _ t (by omega) (by omega) (by omega)]
        congr 1
        omega
      · rintro (⟨rfl, h⟩ | ⟨h, h2⟩)
        · have h7 : n / 128 * 128 ^ 10 ≤ n * 128 ^ 9 := e2
          have : (128 : Nat) ^ 10 = 1180591620717411303424 := by decide
          omega
        · omega
      · omega

theorem rgo_back {most : Int} : ∀ (l : List Int) (j : Nat) (acc : Int), Byt l → (rgo most j acc l).2.e = 0 →
    ∃ m : Nat, l = leb m ++ (rgo most j acc l).2.b ∧ (rgo most j acc l).1 = acc + (m : Int) * 128 ^ j ∧ (0 < j → m ≠ 0) ∧ (rgo most j acc l).1 ≤ most := by
  intro l
  induction l with
  | nil => intro j acc hb h; rw [rgo_short] at h; exact absurd h (by simp)
  | cons c rest ih =>
    intro j acc hb h
    have hc := hb c (by simp)
    by_cases b : (j = 9 ∧ 1 < c) ∨ (0 < j ∧ c = 0)
    · rw [rgo_bad b] at h; exact absurd h (by simp)
    · by_cases h2 : 128 ≤ c
      · rw [rgo_more b h2] at h ⊢
        obtain ⟨m, h3, h4, h5, h6⟩ := ih (j + 1) _ (fun x hx => hb x (List.mem_cons_of_mem _ hx)) h
        refine ⟨m * 128 + (c % 128).toNat, ?_, ?_, ?_, h6⟩
        · have := h5 (by omega)
          rw [leb_ge (by omega), List.cons_append, show (m * 128 + (c % 128).toNat) / 128 = m by omega, ← h3]
          congr 1
          omega
        · rw [h4, Int.pow_succ]
          have : ((m * 128 + (c % 128).toNat : Nat) : Int) = (m : Int) * 128 + c % 128 := by omega
          rw [this, Int.add_mul, Int.mul_assoc, Int.mul_comm (128 ^ j : Int) 128]
          omega
        · intro _
          have := h5 (by omega)
          omega
      · by_cases h3 : most < acc + c % 128 * 128 ^ j
        · rw [rgo_many b (by omega) h3] at h; exact absurd h (by simp)
        · rw [rgo_done b (by omega) h3]
          refine ⟨c.toNat, ?_, ?_, ?_, by simpa using h3⟩
          · rw [leb_lt (by omega), List.singleton_append]
            congr 1
            omega
          · have : c % 128 = ((c.toNat : Nat) : Int) := by omega
            rw [this]
          · intro hj hz
            exact b (.inr ⟨hj, by omega⟩)

theorem rnum_fwd (n : Nat) (t : List Int) {most : Int} (h : n < 18446744073709551616) (hm : (n : Int) ≤ most) : rnum ⟨leb n ++ t, 0⟩ most = ((n : Int), ⟨t, 0⟩) := by
  unfold rnum
  rw [if_pos rfl]
  have := rgo_fwd (most := most) n 0 0 t (by omega) (by omega) (by omega)
  rw [this]
  congr 1
  omega

theorem rnum_back {s : RdS} {most : Int} (hb : Byt s.b) (h : (rnum s most).2.e = 0) : ∃ n : Nat, s = ⟨leb n ++ (rnum s most).2.b, 0⟩ ∧ (rnum s most).1 = n ∧ (n : Int) ≤ most := by
  obtain ⟨b, e⟩ := s
  unfold rnum at h ⊢
  by_cases he : e = 0
  · subst he
    simp only [if_true] at h ⊢
    obtain ⟨m, h1, h2, _, h4⟩ := rgo_back b 0 0 hb h
    refine ⟨m, ?_, by omega, by omega⟩
    rw [← h1]
  · rw [if_neg he] at h
    exact absurd h he

/-- A number that can't be read is a nought. -/
theorem rnum_e {s : RdS} {most : Int} (h : s.e ≠ 0) : rnum s most = (0, s) := by
  unfold rnum
  rw [if_neg h]

end Go.Proofs.Ytihmfccpgahmaaa.Q
