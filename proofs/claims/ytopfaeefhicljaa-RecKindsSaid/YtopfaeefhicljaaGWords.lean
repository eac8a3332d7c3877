/- A word for regions whose guards are not decided: an operation whose guard was not carried out is not carried out. No conditions. -/
import Derived.Test.YtopfaeefhicljaaWInvWords
import Derived.Test.YtopfaeefhicljaaWLast
namespace Go.Proofs.YtopfaeefhicljaaW.PrintLast
open Go Go.RowKit
section
variable {ops : Array Oper} {o og : Oper} {a : Act} {g : Nat} {u : Bool} {t : Tmp}
theorem wanted_undef (hg : o.guard = some (g, u)) (ho : ops[g]? = some og) (hd : og.dst = some t) (hv : a.tmps[t]? = some undef) : Region.wanted o (yielded ops a.tmps) = false := by
  cases u <;> simp_all [Region.wanted, yielded, undef]
end
end Go.Proofs.YtopfaeefhicljaaW.PrintLast
