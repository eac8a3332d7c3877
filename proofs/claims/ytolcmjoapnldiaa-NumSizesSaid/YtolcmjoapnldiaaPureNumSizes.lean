/- Proved: what NumSizes computes, by its printed function: a number takes a byte for each seven bits, one at least, ten at most, a greater one no fewer. No conditions beyond the given statement's. -/
import Derived.Test.YtolcmjoapnldiaaPNumSizesx1
import Derived.Test.YtolcmjoapnldiaaLeb
import Derived.Test.YtolcmjoapnldiaaStr
namespace Go.Proofs.Ytolcmjoapnldiaa.Pure
open Go Go.RowKit Go.Proofs.Ytolcmjoapnldiaa.PNumSizes Go.Proofs.YtolcmjoapnldiaaW.PrintWords Go.Proofs.YtolcmjoapnldiaaW.PrintLast Go.Proofs.Ytolcmjoapnldiaa.Leb

/-- What the printed Put tells: with rounds enough it lays leb behind what was there. -/
theorem put_l0 : ∀ (n : Nat) (k : Nat) (l : List Int), (leb n).length ≤ k → l.length + (leb n).length ≤ 140737488355328 → num_Put.l0 k l (n : Int) = some (l ++ leb n) := by
  intro n
  induction n using Nat.strongRecOn with
  | _ n ih =>
    intro k l hk hl
    have hp := leb_pos n
    obtain ⟨k, rfl⟩ : ∃ m, k = m + 1 := ⟨k - 1, by omega⟩
    by_cases c : n < 128
    · simp only [num_Put.l0]
      rw [if_neg (by omega)]
      rw [leb_lt c] at hl ⊢
      simp only [List.length_cons, List.length_nil] at hl
      rw [if_pos (by omega), Int.emod_eq_of_lt (by omega) (by omega)]
    · rw [leb_ge (by omega)] at hl hk ⊢
      simp only [List.length_cons] at hl hk
      simp only [num_Put.l0]
      rw [if_pos (by omega), if_pos (by omega), or128_leb, show ((n : Nat) : Int) / 128 = ((n / 128 : Nat) : Int) by omega]
      rw [ih (n / 128) (by omega) k (l ++ [((n % 128 + 128 : Nat) : Int)]) (by omega) (by simp; omega)]
      simp
theorem put_l (n k : Nat) (l : List Int) (h : n < 18446744073709551616) (hk : 10 ≤ k) (hl : l.length ≤ 140737488355000) : num_Put.f k l (n : Int) = some (l ++ leb n) := by
  have := leb_ten h
  unfold num_Put.f
  exact put_l0 n k l (by omega) (by omega)

theorem put_f (n k : Nat) (h : n < 18446744073709551616) (hk : 10 ≤ k) : num_Put.f k [] (n : Int) = some (leb n) := put_l n k [] h hk (by simp)

theorem head_f (k : Nat) (hk : 10 ≤ k) : dockmasterlaw01_head.f k = some true := by
  have a1 := put_f 300 k (by decide) hk
  have a2 := put_f 5 k (by decide) hk
  have a3 := put_l 1 k [5] (by decide) hk (by simp)
  have e1 : leb 300 = [172, 2] := by simp [leb]
  have e2 : leb 5 = [5] := by simp [leb]
  have e3 : leb 1 = [1] := by simp [leb]
  have w : IntKind.u64.wrap 1 = 1 := by decide
  rw [e1] at a1; rw [e2] at a2; rw [e3] at a3
  unfold dockmasterlaw01_head.f num_Tid.f
  rw [show (300 : Int) = ((300 : Nat) : Int) from rfl, a1]
  simp only [Option.bind_some]
  rw [if_pos (by rw [Lib.strOfNums_toList]; rfl), show (5 : Int) = ((5 : Nat) : Int) from rfl, a2]
  simp only [Option.bind_some]
  rw [w, show (1 : Int) = ((1 : Nat) : Int) from rfl, a3]
  rw [Option.bind_some, Option.bind_some, Lib.strOfNums_toList]; rfl
theorem sizes_l0 : ∀ (x : Nat) (k : Nat) (a b : Nat) (s : Int), a < 18446744073709551616 → b < 18446744073709551616 → x < 18446744073709551616 → 1 ≤ s → s + (leb x).length = 1 + (leb a).length → (leb x).length + 10 ≤ k →
    dockmasterlaw01_NumSizes.l0 k a b s x = some true := by
  intro x
  induction x using Nat.strongRecOn with
  | _ x ih =>
    intro k a b s ha hb hx h1 hs hk
    have hp := leb_pos x
    have ta := leb_ten ha
    have tb := leb_ten hb
    obtain ⟨k, rfl⟩ : ∃ m, k = m + 1 := ⟨k - 1, by omega⟩
    simp only [dockmasterlaw01_NumSizes.l0]
    by_cases c : x < 128
    · rw [leb_lt c] at hs hk
      simp only [List.length_cons, List.length_nil] at hs hk
      rw [if_neg (by omega), put_f a k ha (by omega), put_f b k hb (by omega)]
      simp only [Option.bind_some]
      rw [if_pos (by omega), if_pos (by omega)]
      by_cases d : (a : Int) > b
      · rw [if_pos d]
      · rw [if_neg d]
        have := leb_mono b a (by omega)
        simp; omega
    · rw [leb_ge (by omega)] at hs hk
      simp only [List.length_cons] at hs hk
      rw [if_pos (by omega)]
      have e : IntKind.u64.wrap (Int.tdiv (x : Int) 128) = ((x / 128 : Nat) : Int) := by
        have : Int.tdiv (x : Int) 128 = ((x / 128 : Nat) : Int) := rfl
        rw [this]
        simp [IntKind.wrap, IntKind.bits, IntKind.signed]; omega
      have e2 : wrap64 (s + 1) = s + 1 := by unfold wrap64; omega
      rw [e, e2]
      exact ih (x / 128) (by omega) k a b (s + 1) ha hb (by omega) (by omega) (by omega) (by omega)

theorem NumSizes : dockmasterlaw01_NumSizes.Pure := by
  intro a b ha hb
  have ha' : 0 ≤ a ∧ a < 18446744073709551616 := by have := bounds_u64 ha; omega
  have hb' : 0 ≤ b ∧ b < 18446744073709551616 := by have := bounds_u64 hb; omega
  obtain ⟨a, rfl⟩ := Int.eq_ofNat_of_zero_le ha'.1
  obtain ⟨b, rfl⟩ := Int.eq_ofNat_of_zero_le hb'.1
  refine ⟨30, ?_⟩
  have := leb_ten (n := a) (by omega)
  unfold dockmasterlaw01_NumSizes.f
  rw [head_f 30 (by omega)]
  simp only [Option.bind_some, if_true]
  exact sizes_l0 a 30 a b 1 (by omega) (by omega) (by omega) (by omega) (by omega) (by omega)

end Go.Proofs.Ytolcmjoapnldiaa.Pure
