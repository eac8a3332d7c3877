/- What the law's own 'right' tells of a message, walked: what Right tells. No conditions beyond the texts' sizes. -/
import Derived.Test.YtolcmjoapnldiaaMsgRt
import Derived.Test.YtolcmjoapnldiaaWLast
namespace Go.Proofs.Ytolcmjoapnldiaa.Msg
open Go Go.RowKit Go.Proofs.Ytolcmjoapnldiaa.Q Go.Proofs.YtolcmjoapnldiaaW.PrintWords Go.Proofs.YtolcmjoapnldiaaW.PrintLast Go.Proofs.Ytolcmjoapnldiaa.Str
set_option linter.unusedVariables false
set_option linter.unusedSimpArgs false

theorem size_pos {s : ByteArray} (h : s.toList.isEmpty = false) : 0 < s.size := by
  rcases Nat.eq_zero_or_pos s.size with hz | hz
  · have : s = ByteArray.empty := ByteArray.size_eq_zero_iff.1 hz
    rw [this] at h
    simp at h
  · exact hz

theorem nodeB_of {n : Int} (h : 0 ≤ n ∧ n < 64) : nodeB n = true := by simp [nodeB, h.1, h.2]

theorem in_ok (n : Int) (w : World) : Calls Try.prog 39 #[.int .i64 n] w fun e w' => e = .returned (.bool (nodeB n)) ∧ w = w' := by
  by_cases h : 0 ≤ n
  · by_cases h2 : n ≤ 63
    · have e1 : nodeB n = true := by simp [nodeB]; omega
      rw [e1]
      go_enter Try.func39, Try.ntmps39
      go_wp2
      go_ret
      exact ⟨rfl, rfl⟩
    · have e1 : nodeB n = false := by simp [nodeB]; omega
      rw [e1]
      go_enter Try.func39, Try.ntmps39
      go_wp2
      go_ret
      exact ⟨rfl, rfl⟩
  · have e1 : nodeB n = false := by simp [nodeB, h]
    rw [e1]
    go_enter Try.func39, Try.ntmps39
    go_wp2
    go_ret
    exact ⟨rfl, rfl⟩

end Go.Proofs.Ytolcmjoapnldiaa.Msg
