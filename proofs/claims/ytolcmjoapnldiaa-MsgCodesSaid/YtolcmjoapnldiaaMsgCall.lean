/- What Right tells, in the print's form. No conditions beyond the texts' sizes. -/
import Derived.Test.YtolcmjoapnldiaaMsgRight
namespace Go.Proofs.Ytolcmjoapnldiaa.Q
open Go Go.RowKit Go.Proofs.YtolcmjoapnldiaaW.PrintWords

def msg_Msg_Right.f (kind src dst tnum node life num op : Int) (key val : ByteArray) (has : Bool) (code : Int) : Option Bool :=
  if key.size ≤ 9223372036854775807 ∧ val.size ≤ 9223372036854775807 then some (rightM ⟨kind, src, dst, tnum, node, life, num, op, key, val, has, code⟩) else none

theorem msg_Msg_Right.calls (kind src dst tnum node life num op : Int) (key val : ByteArray) (has : Bool) (code : Int) (r : Bool) (w : World) (h : msg_Msg_Right.f kind src dst tnum node life num op key val has code = some r) :
    Calls Try.prog 31 #[.agg #[.int .i64 kind, .int .i64 src, .int .i64 dst, .int .u64 tnum, .int .i64 node, .int .u64 life, .int .i64 num, .int .i64 op, .string key, .string val, .bool has, .int .i64 code]] w fun e w' => e = .returned (.bool r) ∧ Below w.heap.size w w' := by
  unfold msg_Msg_Right.f at h
  split at h
  · rename_i hh
    cases h
    exact right_ok ⟨kind, src, dst, tnum, node, life, num, op, key, val, has, code⟩ w hh.1 hh.2
  · cases h

end Go.Proofs.Ytolcmjoapnldiaa.Q
