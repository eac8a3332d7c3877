/- Proved: NumElder answers true: of two unlike transactions just one is elder, and of three it goes on. No conditions beyond the given statement's. -/
import Derived.Test.YtolcmjoapnldiaaQ13
import Derived.Test.YtolcmjoapnldiaaNum
namespace Go.Proofs.Ytolcmjoapnldiaa.NumElder
open Go Go.RowKit Go.Proofs.Ytolcmjoapnldiaa.Q Go.Proofs.YtolcmjoapnldiaaW.PrintWords Go.Proofs.Ytolcmjoapnldiaa.Num

theorem elder (a b c d : Int) : api_Tid_Elder.f a b c d = some (decide (a < c ∨ (a = c ∧ b < d))) := by
  unfold api_Tid_Elder.f
  by_cases h : a < c
  · rw [if_pos h]; simp [h]
  · rw [if_neg h]
    by_cases e : a = c
    · rw [if_pos e]; simp [e]
    · rw [if_neg e]; simp [h, e]

theorem pure_ (a b c d e f : Int) : dockmasterlaw01_NumElder.f 10 a b c d e f = some true := by
  unfold dockmasterlaw01_NumElder.f
  rw [head_f 10 (by omega)]
  simp only [Option.bind_some, if_true, elder]
  by_cases h : a = c ∧ b = d
  · obtain ⟨rfl, rfl⟩ := h
    simp
  · have h1 : (a == c && (b == d)) = false := by
      rw [Bool.eq_false_iff]
      intro hh
      simp at hh
      exact h hh
    rw [h1]
    rw [if_neg (by simp)]
    have hx : (decide (a < c ∨ (a = c ∧ b < d)) != decide (c < a ∨ (c = a ∧ d < b))) = true := by
      by_cases k : a < c ∨ (a = c ∧ b < d)
      · have k2 : ¬ (c < a ∨ (c = a ∧ d < b)) := by omega
        simp [k, k2]
      · have k2 : (c < a ∨ (c = a ∧ d < b)) := by omega
        simp [k, k2]
    rw [if_pos hx]
    by_cases k : a < c ∨ (a = c ∧ b < d)
    · rw [if_pos (by simpa using k)]
      by_cases k3 : c < e ∨ (c = e ∧ d < f)
      · rw [if_pos (by simpa using k3)]
        have : a < e ∨ (a = e ∧ b < f) := by omega
        simp [this]
      · rw [if_neg (by simpa using k3)]
    · rw [if_neg (by simpa using k)]

theorem law_ok (a b c d e f : Int) (w : World) (_ : (Lit.int .u64 a).wf = true) (_ : (Lit.int .i64 b).wf = true) (_ : (Lit.int .u64 c).wf = true) (_ : (Lit.int .i64 d).wf = true) (_ : (Lit.int .u64 e).wf = true) (_ : (Lit.int .i64 f).wf = true) :
    Calls Try.prog 6 #[.agg #[.int .u64 a, .int .i64 b], .agg #[.int .u64 c, .int .i64 d], .agg #[.int .u64 e, .int .i64 f]] w fun e w' => e = .returned (.bool true) ∧ Below w.heap.size w w' :=
  dockmasterlaw01_NumElder.calls 10 a b c d e f true w (pure_ a b c d e f)
end Go.Proofs.Ytolcmjoapnldiaa.NumElder
