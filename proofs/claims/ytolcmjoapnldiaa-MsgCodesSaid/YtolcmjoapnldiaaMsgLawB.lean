/- What the law's own 'right' tells of a message, walked: what Right tells. No conditions beyond the texts' sizes. -/
import Derived.Test.YtolcmjoapnldiaaMsgLawH
import Derived.Test.YtolcmjoapnldiaaWLast
namespace Go.Proofs.Ytolcmjoapnldiaa.Msg
open Go Go.RowKit Go.Proofs.Ytolcmjoapnldiaa.Q Go.Proofs.YtolcmjoapnldiaaW.PrintWords Go.Proofs.YtolcmjoapnldiaaW.PrintLast Go.Proofs.Ytolcmjoapnldiaa.Str
set_option linter.unusedVariables false
set_option linter.unusedSimpArgs false

set_option maxRecDepth 100000 in
set_option maxHeartbeats 4000000 in
theorem true_k6 (src dst tnum node code : Int) (b1 : nodeB src = true) (b2 : nodeB dst = true) (b3 : nodeB node = true) (g1 : decide (1099511627776 < tnum) = false) (g7 : decide (code < 0) = false) (g8 : decide (17 < code) = false) (w : World) :
    Calls Try.prog 32 #[MsgV.lay ⟨6, src, dst, tnum, node, 0, 0, 0, ByteArray.empty, ByteArray.empty, false, code⟩] w fun e w' => e = .returned (.bool true) ∧ Below w.heap.size w w' := by
  unfold MsgV.lay
  dsimp only
  go_enter Try.func32, Try.ntmps32
  go_wp2_with (go_at_call 39; refine (in_ok _ _).mono ?_; rintro e w' ⟨rfl, rfl⟩)
  all_goals
    go_ret
    exact ⟨rfl, below_alloc (Below.refl _ _) _⟩

set_option maxRecDepth 100000 in
set_option maxHeartbeats 4000000 in
theorem true_o (kind src dst tnum node : Int) (h2 : (kind == 2) = false) (h3 : (kind == 3) = false) (h4 : (kind == 4) = false) (h5 : (kind == 5) = false) (h6 : (kind == 6) = false) (k1 : decide (kind < 1) = false) (k2 : decide (10 < kind) = false) (b1 : nodeB src = true) (b2 : nodeB dst = true) (b3 : nodeB node = true) (g1 : decide (1099511627776 < tnum) = false) (w : World) :
    Calls Try.prog 32 #[MsgV.lay ⟨kind, src, dst, tnum, node, 0, 0, 0, ByteArray.empty, ByteArray.empty, false, 0⟩] w fun e w' => e = .returned (.bool true) ∧ Below w.heap.size w w' := by
  unfold MsgV.lay
  dsimp only
  have n2 : ¬ kind = 2 := by simpa using h2
  have n3 : ¬ kind = 3 := by simpa using h3
  have n4 : ¬ kind = 4 := by simpa using h4
  have n5 : ¬ kind = 5 := by simpa using h5
  have n6 : ¬ kind = 6 := by simpa using h6
  go_enter Try.func32, Try.ntmps32
  go_wp2_with (go_at_call 39; refine (in_ok _ _).mono ?_; rintro e w' ⟨rfl, rfl⟩)
  all_goals
    go_ret
    exact ⟨rfl, below_alloc (Below.refl _ _) _⟩

end Go.Proofs.Ytolcmjoapnldiaa.Msg
