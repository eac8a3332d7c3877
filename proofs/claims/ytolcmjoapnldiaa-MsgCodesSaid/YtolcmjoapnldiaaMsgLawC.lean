/- What the law's own 'right' tells of a message, walked: what Right tells. No conditions beyond the texts' sizes. -/
import Derived.Test.YtolcmjoapnldiaaMsgLawH
import Derived.Test.YtolcmjoapnldiaaWLast
namespace Go.Proofs.Ytolcmjoapnldiaa.Msg
open Go Go.RowKit Go.Proofs.Ytolcmjoapnldiaa.Q Go.Proofs.YtolcmjoapnldiaaW.PrintWords Go.Proofs.YtolcmjoapnldiaaW.PrintLast Go.Proofs.Ytolcmjoapnldiaa.Str
set_option linter.unusedVariables false
set_option linter.unusedSimpArgs false

set_option maxRecDepth 100000 in
set_option maxHeartbeats 4000000 in
theorem true_k4a (src dst tnum node num code : Int) (b1 : nodeB src = true) (b2 : nodeB dst = true) (b3 : nodeB node = true) (g1 : decide (1099511627776 < tnum) = false) (g3 : decide (num < 0) = false) (g4 : decide (1048576 < num) = false) (g7 : decide (code < 0) = false) (g8 : decide (17 < code) = false) (w : World) :
    Calls Try.prog 32 #[MsgV.lay ⟨4, src, dst, tnum, node, 0, num, 0, ByteArray.empty, ByteArray.empty, false, code⟩] w fun e w' => e = .returned (.bool true) ∧ Below w.heap.size w w' := by
  unfold MsgV.lay
  dsimp only
  go_enter Try.func32, Try.ntmps32
  go_wp2_with (go_at_call 39; refine (in_ok _ _).mono ?_; rintro e w' ⟨rfl, rfl⟩)
  all_goals
    go_ret
    exact ⟨rfl, below_alloc (Below.refl _ _) _⟩

set_option maxRecDepth 100000 in
set_option maxHeartbeats 4000000 in
theorem true_k4b (src dst tnum node num code : Int) (val : ByteArray) (b1 : nodeB src = true) (b2 : nodeB dst = true) (b3 : nodeB node = true) (g1 : decide (1099511627776 < tnum) = false) (g3 : decide (num < 0) = false) (g4 : decide (1048576 < num) = false) (g7 : decide (code < 0) = false) (g8 : decide (17 < code) = false) (g5 : decide ((48 : Int) < (val.size : Int)) = false) (g6 : decide (48 < val.size) = false) (hv : val.size ≤ 9223372036854775807) (w : World) :
    Calls Try.prog 32 #[MsgV.lay ⟨4, src, dst, tnum, node, 0, num, 0, ByteArray.empty, val, true, code⟩] w fun e w' => e = .returned (.bool true) ∧ Below w.heap.size w w' := by
  unfold MsgV.lay
  dsimp only
  go_enter Try.func32, Try.ntmps32
  go_wp2_with (go_at_call 39; refine (in_ok _ _).mono ?_; rintro e w' ⟨rfl, rfl⟩)
  all_goals
    go_ret
    exact ⟨rfl, below_alloc (Below.refl _ _) _⟩

end Go.Proofs.Ytolcmjoapnldiaa.Msg
