-- printed by a turned print (wip/mkprint.py of this repo) out of the translation; Lean checks it
import Derived.Test.YtolcmjoapnldiaaProg
import Derived.Below
import Derived.Deep.Draws
import Derived.Deep.AppendLies
import Derived.Maps.AppendAt
import Derived.OwnWalk
import Derived.Laws.BytesArg
import Derived.Laws.MakeOwn
import Derived.Laws.OwnMore
import Derived.Deep.OwnRows
import Derived.Tactics
import Derived.Lib.ConvBytes
import Derived.Laws.Slices
import Derived.WalkKit
import Derived.KernelRfl
import Derived.RowKit3
import Derived.Deep.LoopGhost
import Derived.Deep.QuietTactic
import Derived.BigQuiet
import Derived.WideLaws
import Derived.Deep.DeepCutAuto
import Derived.Deep.CutBlock
import Derived.Deep.RegionHeld3
import Derived.Laws.Rows
import Derived.Lib.AppendStr
import Derived.ArgAppend
import Derived.Laws.IdiomCopy
import Derived.OrdersHeld
import Derived.Laws.BitsLemmas
import Derived.RowKit
import Derived.Test.YtolcmjoapnldiaaRd
import Derived.Test.YtolcmjoapnldiaaAppStr
import Derived.Test.YtolcmjoapnldiaaMsgCall
import Derived.Test.YtolcmjoapnldiaaWWords
import Derived.Test.YtolcmjoapnldiaaWLast
import Derived.Test.YtolcmjoapnldiaaWTab
import Derived.Test.YtolcmjoapnldiaaWFour
import Derived.Test.YtolcmjoapnldiaaWQPut
import Derived.Test.YtolcmjoapnldiaaWApart
import Derived.Test.YtolcmjoapnldiaaWArr
import Derived.Test.YtolcmjoapnldiaaWZeros
import Derived.Test.YtolcmjoapnldiaaWFoot
import Derived.Test.YtolcmjoapnldiaaWKept
import Derived.Test.YtolcmjoapnldiaaWShare
import Derived.Test.YtolcmjoapnldiaaWN
import Derived.Test.YtolcmjoapnldiaaWFootNe
import Derived.Test.YtolcmjoapnldiaaWAt
import Derived.Test.YtolcmjoapnldiaaWEqStruct
import Derived.Test.YtolcmjoapnldiaaWRepsOne
import Derived.Test.YtolcmjoapnldiaaWInv
import Derived.Test.YtolcmjoapnldiaaWInvWords
import Derived.Test.YtolcmjoapnldiaaWGuard
import Derived.Test.YtolcmjoapnldiaaWNEv
import Derived.Test.YtolcmjoapnldiaaWMore
namespace Go.Proofs.Ytolcmjoapnldiaa.Q
open Go.RowKit Go.Proofs.YtolcmjoapnldiaaW.PrintWords Go.Proofs.YtolcmjoapnldiaaW.PrintLast Go.Proofs.YtolcmjoapnldiaaW.PrintMore
attribute [local go_sem] max2_int min2_int max_two min_two max_three min_three max_four min_four   -- for this text's walks alone
set_option linter.unusedVariables false
set_option linter.unusedSimpArgs false



def errW : Option Int → Value
  | none => .nilIface
  | some c => .iface 0 (.int .i64 c)
theorem errW_none : errW none = .nilIface := rfl
theorem errW_some (c : Int) : errW (some c) = .iface 0 (.int .i64 c) := rfl

theorem info5 : (Try.prog.info? 5).map (fun i => (i.zero, i.size, i.bytes)) = some (some (.int .u8 0), 1, 1) := by kernel_rfl
-- the values' own types

end Go.Proofs.Ytolcmjoapnldiaa.Q
