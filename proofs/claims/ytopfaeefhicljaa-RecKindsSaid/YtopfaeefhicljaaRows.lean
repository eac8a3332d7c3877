/-
  No cell of these rows narrows 'for every input' (looked for: loops, veiled, ifaces, maps, wideKeys, modest, calm, conditions, laid).
  DERIVED. THE GIVEN ROWS OF THIS SEAT. 12 by the template 'for every input the law returns true; each argument reads behind the call as it read before'; 0 by the template 'total and deterministic' (their statements: YtopfaeefhicljaaTotals.lean).
  GIVEN WITH THE SEED: the statements are not yours to turn. If you find one false, say at which input.
  Laid BY PROGRAM, IN A SANDBOX (cutbox-rows.mjs): the forced cells as the released guide's own fill.sh prints them over the translation 8a61d41d0527a2dd… (all of the seat's roots in one cut). By AI agents, Wed Nov 11 2026. No macro, syntax, notation, axiom, sorry.
-/
import Derived.Test.YtopfaeefhicljaaChecked
import GoSem.Claim
import GoSem.ClaimJoined
import GoSem.ClaimMapViews
import Derived.JoinedTies
import Derived.KernelRfl
namespace Go.Proofs.Ytopfaeefhicljaa
/- THE CELL 'sum', in the pinned program and in every row, IS THE sha256 OF THE DUMP (.gsa) THAT YtopfaeefhicljaaProg.lean LOADS. Nothing in Lean hashes anything: it is a label: what it is worth is what the hold of that sum in a sandbox is worth. -/
noncomputable def Try.pinned : Pinned := { name := "ytopfaeefhicljaa", sum := "8a61d41d0527a2ddc92d0f335fda5499409f9d327ab71ef7670937612c6a39ab", checked := Try.checked }
namespace Rows
def none {H : Type} : Left H := { results := [], args := [] }

/-- 'dockmasterlaw06.PageGreatest': WHATEVER THE INPUT: true; the input reads as it did. -/
def pageGreatestSpec : ChangeSpec := { name := "pageGreatest", fn := fun _ => fun
  | [d1, d2] => { results := [.lit (.bool true)], args := [d1, d2] }
  | _ => none }
def pageGreatestRow : OpenClaim := { program := "ytopfaeefhicljaa", sum := "8a61d41d0527a2ddc92d0f335fda5499409f9d327ab71ef7670937612c6a39ab", func := "dockmaster/dockmasterlaw06.PageGreatest", spec := "pageGreatest", unfollowed := true, recurses := true, apart := false }
def PageGreatestSaid : Prop := pageGreatestRow.holds Try.pinned (OpenSpec.ofChange pageGreatestSpec)

/-- ITS FALSE NEIGHBOUR: 'it returns false'. Refute it at one input. -/
def pageGreatestWrong : ChangeSpec := { name := "pageGreatest", fn := fun _ => fun
  | [d1, d2] => { results := [.lit (.bool false)], args := [d1, d2] }
  | _ => none }
def PageGreatestWrongFalsely : Prop := pageGreatestRow.holds Try.pinned (OpenSpec.ofChange pageGreatestWrong)

/-- 'dockmasterlaw06.PageLimits': WHATEVER THE INPUT: true; the input reads as it did. -/
def pageLimitsSpec : ChangeSpec := { name := "pageLimits", fn := fun _ => fun
  | [d1, d2] => { results := [.lit (.bool true)], args := [d1, d2] }
  | _ => none }
def pageLimitsRow : OpenClaim := { program := "ytopfaeefhicljaa", sum := "8a61d41d0527a2ddc92d0f335fda5499409f9d327ab71ef7670937612c6a39ab", func := "dockmaster/dockmasterlaw06.PageLimits", spec := "pageLimits", unfollowed := true, recurses := true, apart := false }
def PageLimitsSaid : Prop := pageLimitsRow.holds Try.pinned (OpenSpec.ofChange pageLimitsSpec)

/-- ITS FALSE NEIGHBOUR: 'it returns false'. Refute it at one input. -/
def pageLimitsWrong : ChangeSpec := { name := "pageLimits", fn := fun _ => fun
  | [d1, d2] => { results := [.lit (.bool false)], args := [d1, d2] }
  | _ => none }
def PageLimitsWrongFalsely : Prop := pageLimitsRow.holds Try.pinned (OpenSpec.ofChange pageLimitsWrong)

/-- 'dockmasterlaw06.PageSame': WHATEVER THE INPUT: true; the input reads as it did. -/
def pageSameSpec : ChangeSpec := { name := "pageSame", fn := fun _ => fun
  | [d1, d2, d3] => { results := [.lit (.bool true)], args := [d1, d2, d3] }
  | _ => none }
def pageSameRow : OpenClaim := { program := "ytopfaeefhicljaa", sum := "8a61d41d0527a2ddc92d0f335fda5499409f9d327ab71ef7670937612c6a39ab", func := "dockmaster/dockmasterlaw06.PageSame", spec := "pageSame", unfollowed := true, recurses := true, apart := false }
def PageSameSaid : Prop := pageSameRow.holds Try.pinned (OpenSpec.ofChange pageSameSpec)

/-- ITS FALSE NEIGHBOUR: 'it returns false'. Refute it at one input. -/
def pageSameWrong : ChangeSpec := { name := "pageSame", fn := fun _ => fun
  | [d1, d2, d3] => { results := [.lit (.bool false)], args := [d1, d2, d3] }
  | _ => none }
def PageSameWrongFalsely : Prop := pageSameRow.holds Try.pinned (OpenSpec.ofChange pageSameWrong)

/-- 'dockmasterlaw06.PageCodes': WHATEVER THE INPUT: true; the input reads as it did. -/
def pageCodesSpec : ChangeSpec := { name := "pageCodes", fn := fun _ => fun
  | [d1, d2, d3] => { results := [.lit (.bool true)], args := [d1, d2, d3] }
  | _ => none }
def pageCodesRow : OpenClaim := { program := "ytopfaeefhicljaa", sum := "8a61d41d0527a2ddc92d0f335fda5499409f9d327ab71ef7670937612c6a39ab", func := "dockmaster/dockmasterlaw06.PageCodes", spec := "pageCodes", unfollowed := true, recurses := true, apart := false }
def PageCodesSaid : Prop := pageCodesRow.holds Try.pinned (OpenSpec.ofChange pageCodesSpec)

/-- ITS FALSE NEIGHBOUR: 'it returns false'. Refute it at one input. -/
def pageCodesWrong : ChangeSpec := { name := "pageCodes", fn := fun _ => fun
  | [d1, d2, d3] => { results := [.lit (.bool false)], args := [d1, d2, d3] }
  | _ => none }
def PageCodesWrongFalsely : Prop := pageCodesRow.holds Try.pinned (OpenSpec.ofChange pageCodesWrong)

/-- 'dockmasterlaw06.PageReads': WHATEVER THE INPUT: true; the input reads as it did. -/
def pageReadsSpec : ChangeSpec := { name := "pageReads", fn := fun _ => fun
  | [d] => { results := [.lit (.bool true)], args := [d] }
  | _ => none }
def pageReadsRow : OpenClaim := { program := "ytopfaeefhicljaa", sum := "8a61d41d0527a2ddc92d0f335fda5499409f9d327ab71ef7670937612c6a39ab", func := "dockmaster/dockmasterlaw06.PageReads", spec := "pageReads", unfollowed := true, recurses := true, apart := false }
def PageReadsSaid : Prop := pageReadsRow.holds Try.pinned (OpenSpec.ofChange pageReadsSpec)

/-- ITS FALSE NEIGHBOUR: 'it returns false'. Refute it at one input. -/
def pageReadsWrong : ChangeSpec := { name := "pageReads", fn := fun _ => fun
  | [d] => { results := [.lit (.bool false)], args := [d] }
  | _ => none }
def PageReadsWrongFalsely : Prop := pageReadsRow.holds Try.pinned (OpenSpec.ofChange pageReadsWrong)

/-- 'dockmasterlaw06.PageApart': WHATEVER THE INPUT: true; the input reads as it did. -/
def pageApartSpec : ChangeSpec := { name := "pageApart", fn := fun _ => fun
  | [d1, d2, d3, d4, d5] => { results := [.lit (.bool true)], args := [d1, d2, d3, d4, d5] }
  | _ => none }
def pageApartRow : OpenClaim := { program := "ytopfaeefhicljaa", sum := "8a61d41d0527a2ddc92d0f335fda5499409f9d327ab71ef7670937612c6a39ab", func := "dockmaster/dockmasterlaw06.PageApart", spec := "pageApart", unfollowed := true, recurses := true, apart := false }
def PageApartSaid : Prop := pageApartRow.holds Try.pinned (OpenSpec.ofChange pageApartSpec)

/-- ITS FALSE NEIGHBOUR: 'it returns false'. Refute it at one input. -/
def pageApartWrong : ChangeSpec := { name := "pageApart", fn := fun _ => fun
  | [d1, d2, d3, d4, d5] => { results := [.lit (.bool false)], args := [d1, d2, d3, d4, d5] }
  | _ => none }
def PageApartWrongFalsely : Prop := pageApartRow.holds Try.pinned (OpenSpec.ofChange pageApartWrong)

/-- 'dockmasterlaw11.RecGreatest': WHATEVER THE INPUT: true; the input reads as it did. -/
def recGreatestSpec : ChangeSpec := { name := "recGreatest", fn := fun _ => fun
  | [d1, d2] => { results := [.lit (.bool true)], args := [d1, d2] }
  | _ => none }
def recGreatestRow : OpenClaim := { program := "ytopfaeefhicljaa", sum := "8a61d41d0527a2ddc92d0f335fda5499409f9d327ab71ef7670937612c6a39ab", func := "dockmaster/dockmasterlaw11.RecGreatest", spec := "recGreatest", unfollowed := true, recurses := true, apart := false }
def RecGreatestSaid : Prop := recGreatestRow.holds Try.pinned (OpenSpec.ofChange recGreatestSpec)

/-- ITS FALSE NEIGHBOUR: 'it returns false'. Refute it at one input. -/
def recGreatestWrong : ChangeSpec := { name := "recGreatest", fn := fun _ => fun
  | [d1, d2] => { results := [.lit (.bool false)], args := [d1, d2] }
  | _ => none }
def RecGreatestWrongFalsely : Prop := recGreatestRow.holds Try.pinned (OpenSpec.ofChange recGreatestWrong)

/-- 'dockmasterlaw11.RecKinds': WHATEVER THE INPUT: true; the input reads as it did. -/
def recKindsSpec : ChangeSpec := { name := "recKinds", fn := fun _ => fun
  | [d1, d2, d3] => { results := [.lit (.bool true)], args := [d1, d2, d3] }
  | _ => none }
def recKindsRow : OpenClaim := { program := "ytopfaeefhicljaa", sum := "8a61d41d0527a2ddc92d0f335fda5499409f9d327ab71ef7670937612c6a39ab", func := "dockmaster/dockmasterlaw11.RecKinds", spec := "recKinds", unfollowed := true, recurses := true, apart := false }
def RecKindsSaid : Prop := recKindsRow.holds Try.pinned (OpenSpec.ofChange recKindsSpec)

/-- ITS FALSE NEIGHBOUR: 'it returns false'. Refute it at one input. -/
def recKindsWrong : ChangeSpec := { name := "recKinds", fn := fun _ => fun
  | [d1, d2, d3] => { results := [.lit (.bool false)], args := [d1, d2, d3] }
  | _ => none }
def RecKindsWrongFalsely : Prop := recKindsRow.holds Try.pinned (OpenSpec.ofChange recKindsWrong)

/-- 'dockmasterlaw11.RecApart': WHATEVER THE INPUT: true; the input reads as it did. -/
def recApartSpec : ChangeSpec := { name := "recApart", fn := fun _ => fun
  | [d1, d2] => { results := [.lit (.bool true)], args := [d1, d2] }
  | _ => none }
def recApartRow : OpenClaim := { program := "ytopfaeefhicljaa", sum := "8a61d41d0527a2ddc92d0f335fda5499409f9d327ab71ef7670937612c6a39ab", func := "dockmaster/dockmasterlaw11.RecApart", spec := "recApart", unfollowed := true, recurses := true, apart := false }
def RecApartSaid : Prop := recApartRow.holds Try.pinned (OpenSpec.ofChange recApartSpec)

/-- ITS FALSE NEIGHBOUR: 'it returns false'. Refute it at one input. -/
def recApartWrong : ChangeSpec := { name := "recApart", fn := fun _ => fun
  | [d1, d2] => { results := [.lit (.bool false)], args := [d1, d2] }
  | _ => none }
def RecApartWrongFalsely : Prop := recApartRow.holds Try.pinned (OpenSpec.ofChange recApartWrong)

/-- 'dockmasterlaw11.RecCodes': WHATEVER THE INPUT: true; the input reads as it did. -/
def recCodesSpec : ChangeSpec := { name := "recCodes", fn := fun _ => fun
  | [d] => { results := [.lit (.bool true)], args := [d] }
  | _ => none }
def recCodesRow : OpenClaim := { program := "ytopfaeefhicljaa", sum := "8a61d41d0527a2ddc92d0f335fda5499409f9d327ab71ef7670937612c6a39ab", func := "dockmaster/dockmasterlaw11.RecCodes", spec := "recCodes", unfollowed := true, recurses := true, apart := false }
def RecCodesSaid : Prop := recCodesRow.holds Try.pinned (OpenSpec.ofChange recCodesSpec)

/-- ITS FALSE NEIGHBOUR: 'it returns false'. Refute it at one input. -/
def recCodesWrong : ChangeSpec := { name := "recCodes", fn := fun _ => fun
  | [d] => { results := [.lit (.bool false)], args := [d] }
  | _ => none }
def RecCodesWrongFalsely : Prop := recCodesRow.holds Try.pinned (OpenSpec.ofChange recCodesWrong)

/-- 'dockmasterlaw11.RecReads': WHATEVER THE INPUT: true; the input reads as it did. -/
def recReadsSpec : ChangeSpec := { name := "recReads", fn := fun _ => fun
  | [d] => { results := [.lit (.bool true)], args := [d] }
  | _ => none }
def recReadsRow : OpenClaim := { program := "ytopfaeefhicljaa", sum := "8a61d41d0527a2ddc92d0f335fda5499409f9d327ab71ef7670937612c6a39ab", func := "dockmaster/dockmasterlaw11.RecReads", spec := "recReads", unfollowed := true, recurses := true, apart := false }
def RecReadsSaid : Prop := recReadsRow.holds Try.pinned (OpenSpec.ofChange recReadsSpec)

/-- ITS FALSE NEIGHBOUR: 'it returns false'. Refute it at one input. -/
def recReadsWrong : ChangeSpec := { name := "recReads", fn := fun _ => fun
  | [d] => { results := [.lit (.bool false)], args := [d] }
  | _ => none }
def RecReadsWrongFalsely : Prop := recReadsRow.holds Try.pinned (OpenSpec.ofChange recReadsWrong)

/-- 'dockmasterlaw11.RecTurns': WHATEVER THE INPUT: true; the input reads as it did. -/
def recTurnsSpec : ChangeSpec := { name := "recTurns", fn := fun _ => fun
  | [d1, d2, d3] => { results := [.lit (.bool true)], args := [d1, d2, d3] }
  | _ => none }
def recTurnsRow : OpenClaim := { program := "ytopfaeefhicljaa", sum := "8a61d41d0527a2ddc92d0f335fda5499409f9d327ab71ef7670937612c6a39ab", func := "dockmaster/dockmasterlaw11.RecTurns", spec := "recTurns", unfollowed := true, recurses := true, apart := false }
def RecTurnsSaid : Prop := recTurnsRow.holds Try.pinned (OpenSpec.ofChange recTurnsSpec)

/-- ITS FALSE NEIGHBOUR: 'it returns false'. Refute it at one input. -/
def recTurnsWrong : ChangeSpec := { name := "recTurns", fn := fun _ => fun
  | [d1, d2, d3] => { results := [.lit (.bool false)], args := [d1, d2, d3] }
  | _ => none }
def RecTurnsWrongFalsely : Prop := recTurnsRow.holds Try.pinned (OpenSpec.ofChange recTurnsWrong)

/- THE SECOND FORM. 'bulk': how many values and letters a reading holds, each counted each time it is reached (what is shared counts as often as it is met; a slice's spare places count too). A statement '..UptoSaid' is the law's where the arguments, and the package variables that the reading takes, are together of bulk at most 1048576: NARROWER than '..Said'. Prove '..Said' where nothing that the law and all that it calls make is longer than what came in: it says more and counts as full. Else prove '..UptoSaid'. A law counts once. -/
mutual
def uptoBulk {H : Type} : DataW H → Nat
  | .lit (.string bytes) => bytes.length + 1
  | .lit _ => 1
  | .nil => 1
  | .ptr d => uptoBulk d + 1
  | .slice elems spare => uptoBulkAll elems + uptoBulkAll spare + 1
  | .agg parts => uptoBulkAll parts + 1
  | .iface _ d => uptoBulk d + 1
  | .map entries => uptoBulkEntries entries + 1
  | .held _ => 1
def uptoBulkAll {H : Type} : List (DataW H) → Nat
  | [] => 0
  | d :: r => uptoBulk d + uptoBulkAll r
def uptoBulkEntries {H : Type} : List (Lit × DataW H) → Nat
  | [] => 0
  | x :: r => uptoBulkEntry x + uptoBulkEntries r
def uptoBulkEntry {H : Type} : Lit × DataW H → Nat
  | (.string bytes, d) => bytes.length + uptoBulk d + 1
  | (_, d) => uptoBulk d + 1
 end
def uptoSmall : (H : Type) → List (DataW H) → Bool := fun _ ds => decide (uptoBulkAll ds ≤ 1048576)
def OpenSpec.upto (s : _root_.Go.ChangeSpec) : _root_.Go.OpenSpec := { _root_.Go.OpenSpec.ofChange s with cond := some uptoSmall }

/-- 'dockmasterlaw06.PageGreatest', WHERE WHAT IT READS IS OF BULK AT MOST 1048576: true; the input reads as it did. -/
def pageGreatestUptoRow : OpenClaim := { program := "ytopfaeefhicljaa", sum := "8a61d41d0527a2ddc92d0f335fda5499409f9d327ab71ef7670937612c6a39ab", func := "dockmaster/dockmasterlaw06.PageGreatest", spec := "pageGreatest", unfollowed := true, recurses := true, apart := false, narrowed := true }
def PageGreatestUptoSaid : Prop := pageGreatestUptoRow.holds Try.pinned (OpenSpec.upto pageGreatestSpec)

/-- 'dockmasterlaw06.PageLimits', WHERE WHAT IT READS IS OF BULK AT MOST 1048576: true; the input reads as it did. -/
def pageLimitsUptoRow : OpenClaim := { program := "ytopfaeefhicljaa", sum := "8a61d41d0527a2ddc92d0f335fda5499409f9d327ab71ef7670937612c6a39ab", func := "dockmaster/dockmasterlaw06.PageLimits", spec := "pageLimits", unfollowed := true, recurses := true, apart := false, narrowed := true }
def PageLimitsUptoSaid : Prop := pageLimitsUptoRow.holds Try.pinned (OpenSpec.upto pageLimitsSpec)

/-- 'dockmasterlaw06.PageSame', WHERE WHAT IT READS IS OF BULK AT MOST 1048576: true; the input reads as it did. -/
def pageSameUptoRow : OpenClaim := { program := "ytopfaeefhicljaa", sum := "8a61d41d0527a2ddc92d0f335fda5499409f9d327ab71ef7670937612c6a39ab", func := "dockmaster/dockmasterlaw06.PageSame", spec := "pageSame", unfollowed := true, recurses := true, apart := false, narrowed := true }
def PageSameUptoSaid : Prop := pageSameUptoRow.holds Try.pinned (OpenSpec.upto pageSameSpec)

/-- 'dockmasterlaw06.PageCodes', WHERE WHAT IT READS IS OF BULK AT MOST 1048576: true; the input reads as it did. -/
def pageCodesUptoRow : OpenClaim := { program := "ytopfaeefhicljaa", sum := "8a61d41d0527a2ddc92d0f335fda5499409f9d327ab71ef7670937612c6a39ab", func := "dockmaster/dockmasterlaw06.PageCodes", spec := "pageCodes", unfollowed := true, recurses := true, apart := false, narrowed := true }
def PageCodesUptoSaid : Prop := pageCodesUptoRow.holds Try.pinned (OpenSpec.upto pageCodesSpec)

/-- 'dockmasterlaw06.PageReads', WHERE WHAT IT READS IS OF BULK AT MOST 1048576: true; the input reads as it did. -/
def pageReadsUptoRow : OpenClaim := { program := "ytopfaeefhicljaa", sum := "8a61d41d0527a2ddc92d0f335fda5499409f9d327ab71ef7670937612c6a39ab", func := "dockmaster/dockmasterlaw06.PageReads", spec := "pageReads", unfollowed := true, recurses := true, apart := false, narrowed := true }
def PageReadsUptoSaid : Prop := pageReadsUptoRow.holds Try.pinned (OpenSpec.upto pageReadsSpec)

/-- 'dockmasterlaw06.PageApart', WHERE WHAT IT READS IS OF BULK AT MOST 1048576: true; the input reads as it did. -/
def pageApartUptoRow : OpenClaim := { program := "ytopfaeefhicljaa", sum := "8a61d41d0527a2ddc92d0f335fda5499409f9d327ab71ef7670937612c6a39ab", func := "dockmaster/dockmasterlaw06.PageApart", spec := "pageApart", unfollowed := true, recurses := true, apart := false, narrowed := true }
def PageApartUptoSaid : Prop := pageApartUptoRow.holds Try.pinned (OpenSpec.upto pageApartSpec)

/-- 'dockmasterlaw11.RecGreatest', WHERE WHAT IT READS IS OF BULK AT MOST 1048576: true; the input reads as it did. -/
def recGreatestUptoRow : OpenClaim := { program := "ytopfaeefhicljaa", sum := "8a61d41d0527a2ddc92d0f335fda5499409f9d327ab71ef7670937612c6a39ab", func := "dockmaster/dockmasterlaw11.RecGreatest", spec := "recGreatest", unfollowed := true, recurses := true, apart := false, narrowed := true }
def RecGreatestUptoSaid : Prop := recGreatestUptoRow.holds Try.pinned (OpenSpec.upto recGreatestSpec)

/-- 'dockmasterlaw11.RecKinds', WHERE WHAT IT READS IS OF BULK AT MOST 1048576: true; the input reads as it did. -/
def recKindsUptoRow : OpenClaim := { program := "ytopfaeefhicljaa", sum := "8a61d41d0527a2ddc92d0f335fda5499409f9d327ab71ef7670937612c6a39ab", func := "dockmaster/dockmasterlaw11.RecKinds", spec := "recKinds", unfollowed := true, recurses := true, apart := false, narrowed := true }
def RecKindsUptoSaid : Prop := recKindsUptoRow.holds Try.pinned (OpenSpec.upto recKindsSpec)

/-- 'dockmasterlaw11.RecApart', WHERE WHAT IT READS IS OF BULK AT MOST 1048576: true; the input reads as it did. -/
def recApartUptoRow : OpenClaim := { program := "ytopfaeefhicljaa", sum := "8a61d41d0527a2ddc92d0f335fda5499409f9d327ab71ef7670937612c6a39ab", func := "dockmaster/dockmasterlaw11.RecApart", spec := "recApart", unfollowed := true, recurses := true, apart := false, narrowed := true }
def RecApartUptoSaid : Prop := recApartUptoRow.holds Try.pinned (OpenSpec.upto recApartSpec)

/-- 'dockmasterlaw11.RecCodes', WHERE WHAT IT READS IS OF BULK AT MOST 1048576: true; the input reads as it did. -/
def recCodesUptoRow : OpenClaim := { program := "ytopfaeefhicljaa", sum := "8a61d41d0527a2ddc92d0f335fda5499409f9d327ab71ef7670937612c6a39ab", func := "dockmaster/dockmasterlaw11.RecCodes", spec := "recCodes", unfollowed := true, recurses := true, apart := false, narrowed := true }
def RecCodesUptoSaid : Prop := recCodesUptoRow.holds Try.pinned (OpenSpec.upto recCodesSpec)

/-- 'dockmasterlaw11.RecReads', WHERE WHAT IT READS IS OF BULK AT MOST 1048576: true; the input reads as it did. -/
def recReadsUptoRow : OpenClaim := { program := "ytopfaeefhicljaa", sum := "8a61d41d0527a2ddc92d0f335fda5499409f9d327ab71ef7670937612c6a39ab", func := "dockmaster/dockmasterlaw11.RecReads", spec := "recReads", unfollowed := true, recurses := true, apart := false, narrowed := true }
def RecReadsUptoSaid : Prop := recReadsUptoRow.holds Try.pinned (OpenSpec.upto recReadsSpec)

/-- 'dockmasterlaw11.RecTurns', WHERE WHAT IT READS IS OF BULK AT MOST 1048576: true; the input reads as it did. -/
def recTurnsUptoRow : OpenClaim := { program := "ytopfaeefhicljaa", sum := "8a61d41d0527a2ddc92d0f335fda5499409f9d327ab71ef7670937612c6a39ab", func := "dockmaster/dockmasterlaw11.RecTurns", spec := "recTurns", unfollowed := true, recurses := true, apart := false, narrowed := true }
def RecTurnsUptoSaid : Prop := recTurnsUptoRow.holds Try.pinned (OpenSpec.upto recTurnsSpec)

end Rows
end Go.Proofs.Ytopfaeefhicljaa
