/- A text is empty where it has no byte. -/
import Derived.Test.YtolcmjoapnldiaaMsgLawH
namespace Go.Proofs.Ytolcmjoapnldiaa.Msg
open Go Go.RowKit Go.Proofs.Ytolcmjoapnldiaa.Q Go.Proofs.Ytolcmjoapnldiaa.Str

theorem isE (s : ByteArray) : s.toList.isEmpty = decide (s.size < 1) := by
  rcases Nat.eq_zero_or_pos s.size with hz | hz
  · have : s = ByteArray.empty := ByteArray.size_eq_zero_iff.1 hz
    rw [this]
    simp
  · rw [decide_eq_false (by omega)]
    rcases Bool.eq_false_or_eq_true s.toList.isEmpty with h | h
    · have : s = ByteArray.empty := empty_of (by simpa using h)
      rw [this] at hz
      simp at hz
    · exact h

end Go.Proofs.Ytolcmjoapnldiaa.Msg
