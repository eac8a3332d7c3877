/-
  No cell of these rows narrows 'for every input' (looked for: loops, veiled, ifaces, maps, wideKeys, modest, calm, conditions, laid).
  DERIVED. THE GIVEN ROWS OF THIS SEAT. 15 by the template 'for every input the law returns true; each argument reads behind the call as it read before'; 0 by the template 'total and deterministic' (their statements: YtihmfccpgahmaaaTotals.lean).
  GIVEN WITH THE SEED: the statements are not yours to turn. If you find one false, say at which input.
  Laid BY PROGRAM, IN A SANDBOX (cutbox-rows.mjs): the forced cells as the released guide's own fill.sh prints them over the translation 0c524a1a9283393e… (all of the seat's roots in one cut). By AI agents, Wed Nov 11 2026. No macro, syntax, notation, axiom, sorry.
-/
import Derived.Test.YtihmfccpgahmaaaChecked
import GoSem.Claim
import GoSem.ClaimJoined
import GoSem.ClaimMapViews
import Derived.JoinedTies
import Derived.KernelRfl
namespace Go.Proofs.Ytihmfccpgahmaaa
/- THE CELL 'sum', in the pinned program and in every row, IS THE sha256 OF THE DUMP (.gsa) THAT YtihmfccpgahmaaaProg.lean LOADS. Nothing in Lean hashes anything: it is a label: what it is worth is what the hold of that sum in a sandbox is worth. -/
noncomputable def Try.pinned : Pinned := { name := "ytihmfccpgahmaaa", sum := "0c524a1a9283393eddbd02e7dbaf06a3323945cd32499324ec8232f58b505dcd", checked := Try.checked }
namespace Rows
def none {H : Type} : Left H := { results := [], args := [] }

/-- 'dockmasterlaw04.DiskTorn': WHATEVER THE INPUT: true; the input reads as it did. -/
def diskTornSpec : ChangeSpec := { name := "diskTorn", fn := fun _ => fun
  | [d1, d2, d3, d4] => { results := [.lit (.bool true)], args := [d1, d2, d3, d4] }
  | _ => none }
def diskTornRow : OpenClaim := { program := "ytihmfccpgahmaaa", sum := "0c524a1a9283393eddbd02e7dbaf06a3323945cd32499324ec8232f58b505dcd", func := "dockmaster/dockmasterlaw04.DiskTorn", spec := "diskTorn", apart := false }
def DiskTornSaid : Prop := diskTornRow.holds Try.pinned (OpenSpec.ofChange diskTornSpec)

/-- ITS FALSE NEIGHBOUR: 'it returns false'. Refute it at one input. -/
def diskTornWrong : ChangeSpec := { name := "diskTorn", fn := fun _ => fun
  | [d1, d2, d3, d4] => { results := [.lit (.bool false)], args := [d1, d2, d3, d4] }
  | _ => none }
def DiskTornWrongFalsely : Prop := diskTornRow.holds Try.pinned (OpenSpec.ofChange diskTornWrong)

/-- 'dockmasterlaw04.DiskSafe': WHATEVER THE INPUT: true; the input reads as it did. -/
def diskSafeSpec : ChangeSpec := { name := "diskSafe", fn := fun _ => fun
  | [d1, d2, d3, d4] => { results := [.lit (.bool true)], args := [d1, d2, d3, d4] }
  | _ => none }
def diskSafeRow : OpenClaim := { program := "ytihmfccpgahmaaa", sum := "0c524a1a9283393eddbd02e7dbaf06a3323945cd32499324ec8232f58b505dcd", func := "dockmaster/dockmasterlaw04.DiskSafe", spec := "diskSafe", apart := false }
def DiskSafeSaid : Prop := diskSafeRow.holds Try.pinned (OpenSpec.ofChange diskSafeSpec)

/-- ITS FALSE NEIGHBOUR: 'it returns false'. Refute it at one input. -/
def diskSafeWrong : ChangeSpec := { name := "diskSafe", fn := fun _ => fun
  | [d1, d2, d3, d4] => { results := [.lit (.bool false)], args := [d1, d2, d3, d4] }
  | _ => none }
def DiskSafeWrongFalsely : Prop := diskSafeRow.holds Try.pinned (OpenSpec.ofChange diskSafeWrong)

/-- 'dockmasterlaw04.DiskOrder': WHATEVER THE INPUT: true; the input reads as it did. -/
def diskOrderSpec : ChangeSpec := { name := "diskOrder", fn := fun _ => fun
  | [d1, d2, d3, d4, d5] => { results := [.lit (.bool true)], args := [d1, d2, d3, d4, d5] }
  | _ => none }
def diskOrderRow : OpenClaim := { program := "ytihmfccpgahmaaa", sum := "0c524a1a9283393eddbd02e7dbaf06a3323945cd32499324ec8232f58b505dcd", func := "dockmaster/dockmasterlaw04.DiskOrder", spec := "diskOrder", apart := false }
def DiskOrderSaid : Prop := diskOrderRow.holds Try.pinned (OpenSpec.ofChange diskOrderSpec)

/-- ITS FALSE NEIGHBOUR: 'it returns false'. Refute it at one input. -/
def diskOrderWrong : ChangeSpec := { name := "diskOrder", fn := fun _ => fun
  | [d1, d2, d3, d4, d5] => { results := [.lit (.bool false)], args := [d1, d2, d3, d4, d5] }
  | _ => none }
def DiskOrderWrongFalsely : Prop := diskOrderRow.holds Try.pinned (OpenSpec.ofChange diskOrderWrong)

/-- 'dockmasterlaw04.DiskAll': WHATEVER THE INPUT: true; the input reads as it did. -/
def diskAllSpec : ChangeSpec := { name := "diskAll", fn := fun _ => fun
  | [d] => { results := [.lit (.bool true)], args := [d] }
  | _ => none }
def diskAllRow : OpenClaim := { program := "ytihmfccpgahmaaa", sum := "0c524a1a9283393eddbd02e7dbaf06a3323945cd32499324ec8232f58b505dcd", func := "dockmaster/dockmasterlaw04.DiskAll", spec := "diskAll", unfollowed := true, recurses := true, apart := false }
def DiskAllSaid : Prop := diskAllRow.holds Try.pinned (OpenSpec.ofChange diskAllSpec)

/-- ITS FALSE NEIGHBOUR: 'it returns false'. Refute it at one input. -/
def diskAllWrong : ChangeSpec := { name := "diskAll", fn := fun _ => fun
  | [d] => { results := [.lit (.bool false)], args := [d] }
  | _ => none }
def DiskAllWrongFalsely : Prop := diskAllRow.holds Try.pinned (OpenSpec.ofChange diskAllWrong)

/-- 'dockmasterlaw04.DiskRuns': WHATEVER THE INPUT: true; the input reads as it did. -/
def diskRunsSpec : ChangeSpec := { name := "diskRuns", fn := fun _ => fun
  | [d1, d2] => { results := [.lit (.bool true)], args := [d1, d2] }
  | _ => none }
def diskRunsRow : OpenClaim := { program := "ytihmfccpgahmaaa", sum := "0c524a1a9283393eddbd02e7dbaf06a3323945cd32499324ec8232f58b505dcd", func := "dockmaster/dockmasterlaw04.DiskRuns", spec := "diskRuns", apart := false }
def DiskRunsSaid : Prop := diskRunsRow.holds Try.pinned (OpenSpec.ofChange diskRunsSpec)

/-- ITS FALSE NEIGHBOUR: 'it returns false'. Refute it at one input. -/
def diskRunsWrong : ChangeSpec := { name := "diskRuns", fn := fun _ => fun
  | [d1, d2] => { results := [.lit (.bool false)], args := [d1, d2] }
  | _ => none }
def DiskRunsWrongFalsely : Prop := diskRunsRow.holds Try.pinned (OpenSpec.ofChange diskRunsWrong)

/-- 'dockmasterlaw04.DiskNil': WHATEVER THE INPUT: true; the input reads as it did. -/
def diskNilSpec : ChangeSpec := { name := "diskNil", fn := fun _ => fun
  | [d1, d2] => { results := [.lit (.bool true)], args := [d1, d2] }
  | _ => none }
def diskNilRow : OpenClaim := { program := "ytihmfccpgahmaaa", sum := "0c524a1a9283393eddbd02e7dbaf06a3323945cd32499324ec8232f58b505dcd", func := "dockmaster/dockmasterlaw04.DiskNil", spec := "diskNil", apart := false }
def DiskNilSaid : Prop := diskNilRow.holds Try.pinned (OpenSpec.ofChange diskNilSpec)

/-- ITS FALSE NEIGHBOUR: 'it returns false'. Refute it at one input. -/
def diskNilWrong : ChangeSpec := { name := "diskNil", fn := fun _ => fun
  | [d1, d2] => { results := [.lit (.bool false)], args := [d1, d2] }
  | _ => none }
def DiskNilWrongFalsely : Prop := diskNilRow.holds Try.pinned (OpenSpec.ofChange diskNilWrong)

/-- 'dockmasterlaw05.WalNeeds': WHATEVER THE INPUT: true; the input reads as it did. -/
def walNeedsSpec : ChangeSpec := { name := "walNeeds", fn := fun _ => fun
  | [d] => { results := [.lit (.bool true)], args := [d] }
  | _ => none }
def walNeedsRow : OpenClaim := { program := "ytihmfccpgahmaaa", sum := "0c524a1a9283393eddbd02e7dbaf06a3323945cd32499324ec8232f58b505dcd", func := "dockmaster/dockmasterlaw05.WalNeeds", spec := "walNeeds", unfollowed := true, recurses := true, apart := false }
def WalNeedsSaid : Prop := walNeedsRow.holds Try.pinned (OpenSpec.ofChange walNeedsSpec)

/-- ITS FALSE NEIGHBOUR: 'it returns false'. Refute it at one input. -/
def walNeedsWrong : ChangeSpec := { name := "walNeeds", fn := fun _ => fun
  | [d] => { results := [.lit (.bool false)], args := [d] }
  | _ => none }
def WalNeedsWrongFalsely : Prop := walNeedsRow.holds Try.pinned (OpenSpec.ofChange walNeedsWrong)

/-- 'dockmasterlaw05.WalSectors': WHATEVER THE INPUT: true; the input reads as it did. -/
def walSectorsSpec : ChangeSpec := { name := "walSectors", fn := fun _ => fun
  | [d1, d2] => { results := [.lit (.bool true)], args := [d1, d2] }
  | _ => none }
def walSectorsRow : OpenClaim := { program := "ytihmfccpgahmaaa", sum := "0c524a1a9283393eddbd02e7dbaf06a3323945cd32499324ec8232f58b505dcd", func := "dockmaster/dockmasterlaw05.WalSectors", spec := "walSectors", unfollowed := true, recurses := true, apart := false }
def WalSectorsSaid : Prop := walSectorsRow.holds Try.pinned (OpenSpec.ofChange walSectorsSpec)

/-- ITS FALSE NEIGHBOUR: 'it returns false'. Refute it at one input. -/
def walSectorsWrong : ChangeSpec := { name := "walSectors", fn := fun _ => fun
  | [d1, d2] => { results := [.lit (.bool false)], args := [d1, d2] }
  | _ => none }
def WalSectorsWrongFalsely : Prop := walSectorsRow.holds Try.pinned (OpenSpec.ofChange walSectorsWrong)

/-- 'dockmasterlaw05.WalLies': WHATEVER THE INPUT: true; the input reads as it did. -/
def walLiesSpec : ChangeSpec := { name := "walLies", fn := fun _ => fun
  | [d1, d2] => { results := [.lit (.bool true)], args := [d1, d2] }
  | _ => none }
def walLiesRow : OpenClaim := { program := "ytihmfccpgahmaaa", sum := "0c524a1a9283393eddbd02e7dbaf06a3323945cd32499324ec8232f58b505dcd", func := "dockmaster/dockmasterlaw05.WalLies", spec := "walLies", unfollowed := true, recurses := true, apart := false }
def WalLiesSaid : Prop := walLiesRow.holds Try.pinned (OpenSpec.ofChange walLiesSpec)

/-- ITS FALSE NEIGHBOUR: 'it returns false'. Refute it at one input. -/
def walLiesWrong : ChangeSpec := { name := "walLies", fn := fun _ => fun
  | [d1, d2] => { results := [.lit (.bool false)], args := [d1, d2] }
  | _ => none }
def WalLiesWrongFalsely : Prop := walLiesRow.holds Try.pinned (OpenSpec.ofChange walLiesWrong)

/-- 'dockmasterlaw05.WalAlls': WHATEVER THE INPUT: true; the input reads as it did. -/
def walAllsSpec : ChangeSpec := { name := "walAlls", fn := fun _ => fun
  | [d1, d2, d3] => { results := [.lit (.bool true)], args := [d1, d2, d3] }
  | _ => none }
def walAllsRow : OpenClaim := { program := "ytihmfccpgahmaaa", sum := "0c524a1a9283393eddbd02e7dbaf06a3323945cd32499324ec8232f58b505dcd", func := "dockmaster/dockmasterlaw05.WalAlls", spec := "walAlls", unfollowed := true, recurses := true, apart := false }
def WalAllsSaid : Prop := walAllsRow.holds Try.pinned (OpenSpec.ofChange walAllsSpec)

/-- ITS FALSE NEIGHBOUR: 'it returns false'. Refute it at one input. -/
def walAllsWrong : ChangeSpec := { name := "walAlls", fn := fun _ => fun
  | [d1, d2, d3] => { results := [.lit (.bool false)], args := [d1, d2, d3] }
  | _ => none }
def WalAllsWrongFalsely : Prop := walAllsRow.holds Try.pinned (OpenSpec.ofChange walAllsWrong)

/-- 'dockmasterlaw05.WalTail': WHATEVER THE INPUT: true; the input reads as it did. -/
def walTailSpec : ChangeSpec := { name := "walTail", fn := fun _ => fun
  | [d1, d2, d3, d4, d5] => { results := [.lit (.bool true)], args := [d1, d2, d3, d4, d5] }
  | _ => none }
def walTailRow : OpenClaim := { program := "ytihmfccpgahmaaa", sum := "0c524a1a9283393eddbd02e7dbaf06a3323945cd32499324ec8232f58b505dcd", func := "dockmaster/dockmasterlaw05.WalTail", spec := "walTail", unfollowed := true, recurses := true, apart := false }
def WalTailSaid : Prop := walTailRow.holds Try.pinned (OpenSpec.ofChange walTailSpec)

/-- ITS FALSE NEIGHBOUR: 'it returns false'. Refute it at one input. -/
def walTailWrong : ChangeSpec := { name := "walTail", fn := fun _ => fun
  | [d1, d2, d3, d4, d5] => { results := [.lit (.bool false)], args := [d1, d2, d3, d4, d5] }
  | _ => none }
def WalTailWrongFalsely : Prop := walTailRow.holds Try.pinned (OpenSpec.ofChange walTailWrong)

/-- 'dockmasterlaw05.WalRounds': WHATEVER THE INPUT: true; the input reads as it did. -/
def walRoundsSpec : ChangeSpec := { name := "walRounds", fn := fun _ => fun
  | [d1, d2, d3] => { results := [.lit (.bool true)], args := [d1, d2, d3] }
  | _ => none }
def walRoundsRow : OpenClaim := { program := "ytihmfccpgahmaaa", sum := "0c524a1a9283393eddbd02e7dbaf06a3323945cd32499324ec8232f58b505dcd", func := "dockmaster/dockmasterlaw05.WalRounds", spec := "walRounds", unfollowed := true, recurses := true, apart := false }
def WalRoundsSaid : Prop := walRoundsRow.holds Try.pinned (OpenSpec.ofChange walRoundsSpec)

/-- ITS FALSE NEIGHBOUR: 'it returns false'. Refute it at one input. -/
def walRoundsWrong : ChangeSpec := { name := "walRounds", fn := fun _ => fun
  | [d1, d2, d3] => { results := [.lit (.bool false)], args := [d1, d2, d3] }
  | _ => none }
def WalRoundsWrongFalsely : Prop := walRoundsRow.holds Try.pinned (OpenSpec.ofChange walRoundsWrong)

/-- 'dockmasterlaw05.WalBehind': WHATEVER THE INPUT: true; the input reads as it did. -/
def walBehindSpec : ChangeSpec := { name := "walBehind", fn := fun _ => fun
  | [d1, d2, d3, d4, d5] => { results := [.lit (.bool true)], args := [d1, d2, d3, d4, d5] }
  | _ => none }
def walBehindRow : OpenClaim := { program := "ytihmfccpgahmaaa", sum := "0c524a1a9283393eddbd02e7dbaf06a3323945cd32499324ec8232f58b505dcd", func := "dockmaster/dockmasterlaw05.WalBehind", spec := "walBehind", unfollowed := true, recurses := true, apart := false }
def WalBehindSaid : Prop := walBehindRow.holds Try.pinned (OpenSpec.ofChange walBehindSpec)

/-- ITS FALSE NEIGHBOUR: 'it returns false'. Refute it at one input. -/
def walBehindWrong : ChangeSpec := { name := "walBehind", fn := fun _ => fun
  | [d1, d2, d3, d4, d5] => { results := [.lit (.bool false)], args := [d1, d2, d3, d4, d5] }
  | _ => none }
def WalBehindWrongFalsely : Prop := walBehindRow.holds Try.pinned (OpenSpec.ofChange walBehindWrong)

/-- 'dockmasterlaw05.WalErrors': WHATEVER THE INPUT: true; the input reads as it did. -/
def walErrorsSpec : ChangeSpec := { name := "walErrors", fn := fun _ => fun
  | [d1, d2, d3] => { results := [.lit (.bool true)], args := [d1, d2, d3] }
  | _ => none }
def walErrorsRow : OpenClaim := { program := "ytihmfccpgahmaaa", sum := "0c524a1a9283393eddbd02e7dbaf06a3323945cd32499324ec8232f58b505dcd", func := "dockmaster/dockmasterlaw05.WalErrors", spec := "walErrors", unfollowed := true, recurses := true, apart := false }
def WalErrorsSaid : Prop := walErrorsRow.holds Try.pinned (OpenSpec.ofChange walErrorsSpec)

/-- ITS FALSE NEIGHBOUR: 'it returns false'. Refute it at one input. -/
def walErrorsWrong : ChangeSpec := { name := "walErrors", fn := fun _ => fun
  | [d1, d2, d3] => { results := [.lit (.bool false)], args := [d1, d2, d3] }
  | _ => none }
def WalErrorsWrongFalsely : Prop := walErrorsRow.holds Try.pinned (OpenSpec.ofChange walErrorsWrong)

/-- 'dockmasterlaw05.WalKeeps': WHATEVER THE INPUT: true; the input reads as it did. -/
def walKeepsSpec : ChangeSpec := { name := "walKeeps", fn := fun _ => fun
  | [d1, d2] => { results := [.lit (.bool true)], args := [d1, d2] }
  | _ => none }
def walKeepsRow : OpenClaim := { program := "ytihmfccpgahmaaa", sum := "0c524a1a9283393eddbd02e7dbaf06a3323945cd32499324ec8232f58b505dcd", func := "dockmaster/dockmasterlaw05.WalKeeps", spec := "walKeeps", unfollowed := true, recurses := true, apart := false }
def WalKeepsSaid : Prop := walKeepsRow.holds Try.pinned (OpenSpec.ofChange walKeepsSpec)

/-- ITS FALSE NEIGHBOUR: 'it returns false'. Refute it at one input. -/
def walKeepsWrong : ChangeSpec := { name := "walKeeps", fn := fun _ => fun
  | [d1, d2] => { results := [.lit (.bool false)], args := [d1, d2] }
  | _ => none }
def WalKeepsWrongFalsely : Prop := walKeepsRow.holds Try.pinned (OpenSpec.ofChange walKeepsWrong)

/- THE SECOND FORM. 'bulk': how many values and letters a reading holds, each counted each time it is reached (what is shared counts as often as it is met; a slice's spare places count too). A statement '..UptoSaid' is the law's where the arguments, and the package variables that the reading takes, are together of bulk at most 1048576: NARROWER than '..Said'. Prove '..Said' where nothing that the law and all that it calls make is longer than what came in: it says more and counts as full. Else prove '..UptoSaid'. A law counts once. -/
mutual
def uptoBulk {H : Type} : DataW H → Nat
  | .lit (.string bytes) => bytes.length + 1
  | .lit _ => 1
  | .nil => 1
  | .ptr d => uptoBulk d + 1
  | .slice elems spare => uptoBulkAll elems + uptoBulkAll spare + 1
  | .agg parts => uptoBulkAll parts + 1
  | .iface _ d => uptoBulk d + 1
  | .map entries => uptoBulkEntries entries + 1
  | .held _ => 1
def uptoBulkAll {H : Type} : List (DataW H) → Nat
  | [] => 0
  | d :: r => uptoBulk d + uptoBulkAll r
def uptoBulkEntries {H : Type} : List (Lit × DataW H) → Nat
  | [] => 0
  | x :: r => uptoBulkEntry x + uptoBulkEntries r
def uptoBulkEntry {H : Type} : Lit × DataW H → Nat
  | (.string bytes, d) => bytes.length + uptoBulk d + 1
  | (_, d) => uptoBulk d + 1
 end
def uptoSmall : (H : Type) → List (DataW H) → Bool := fun _ ds => decide (uptoBulkAll ds ≤ 1048576)
def OpenSpec.upto (s : _root_.Go.ChangeSpec) : _root_.Go.OpenSpec := { _root_.Go.OpenSpec.ofChange s with cond := some uptoSmall }

/-- 'dockmasterlaw04.DiskTorn', WHERE WHAT IT READS IS OF BULK AT MOST 1048576: true; the input reads as it did. -/
def diskTornUptoRow : OpenClaim := { program := "ytihmfccpgahmaaa", sum := "0c524a1a9283393eddbd02e7dbaf06a3323945cd32499324ec8232f58b505dcd", func := "dockmaster/dockmasterlaw04.DiskTorn", spec := "diskTorn", apart := false, narrowed := true }
def DiskTornUptoSaid : Prop := diskTornUptoRow.holds Try.pinned (OpenSpec.upto diskTornSpec)

/-- 'dockmasterlaw04.DiskSafe', WHERE WHAT IT READS IS OF BULK AT MOST 1048576: true; the input reads as it did. -/
def diskSafeUptoRow : OpenClaim := { program := "ytihmfccpgahmaaa", sum := "0c524a1a9283393eddbd02e7dbaf06a3323945cd32499324ec8232f58b505dcd", func := "dockmaster/dockmasterlaw04.DiskSafe", spec := "diskSafe", apart := false, narrowed := true }
def DiskSafeUptoSaid : Prop := diskSafeUptoRow.holds Try.pinned (OpenSpec.upto diskSafeSpec)

/-- 'dockmasterlaw04.DiskOrder', WHERE WHAT IT READS IS OF BULK AT MOST 1048576: true; the input reads as it did. -/
def diskOrderUptoRow : OpenClaim := { program := "ytihmfccpgahmaaa", sum := "0c524a1a9283393eddbd02e7dbaf06a3323945cd32499324ec8232f58b505dcd", func := "dockmaster/dockmasterlaw04.DiskOrder", spec := "diskOrder", apart := false, narrowed := true }
def DiskOrderUptoSaid : Prop := diskOrderUptoRow.holds Try.pinned (OpenSpec.upto diskOrderSpec)

/-- 'dockmasterlaw04.DiskAll', WHERE WHAT IT READS IS OF BULK AT MOST 1048576: true; the input reads as it did. -/
def diskAllUptoRow : OpenClaim := { program := "ytihmfccpgahmaaa", sum := "0c524a1a9283393eddbd02e7dbaf06a3323945cd32499324ec8232f58b505dcd", func := "dockmaster/dockmasterlaw04.DiskAll", spec := "diskAll", unfollowed := true, recurses := true, apart := false, narrowed := true }
def DiskAllUptoSaid : Prop := diskAllUptoRow.holds Try.pinned (OpenSpec.upto diskAllSpec)

/-- 'dockmasterlaw04.DiskRuns', WHERE WHAT IT READS IS OF BULK AT MOST 1048576: true; the input reads as it did. -/
def diskRunsUptoRow : OpenClaim := { program := "ytihmfccpgahmaaa", sum := "0c524a1a9283393eddbd02e7dbaf06a3323945cd32499324ec8232f58b505dcd", func := "dockmaster/dockmasterlaw04.DiskRuns", spec := "diskRuns", apart := false, narrowed := true }
def DiskRunsUptoSaid : Prop := diskRunsUptoRow.holds Try.pinned (OpenSpec.upto diskRunsSpec)

/-- 'dockmasterlaw04.DiskNil', WHERE WHAT IT READS IS OF BULK AT MOST 1048576: true; the input reads as it did. -/
def diskNilUptoRow : OpenClaim := { program := "ytihmfccpgahmaaa", sum := "0c524a1a9283393eddbd02e7dbaf06a3323945cd32499324ec8232f58b505dcd", func := "dockmaster/dockmasterlaw04.DiskNil", spec := "diskNil", apart := false, narrowed := true }
def DiskNilUptoSaid : Prop := diskNilUptoRow.holds Try.pinned (OpenSpec.upto diskNilSpec)

/-- 'dockmasterlaw05.WalNeeds', WHERE WHAT IT READS IS OF BULK AT MOST 1048576: true; the input reads as it did. -/
def walNeedsUptoRow : OpenClaim := { program := "ytihmfccpgahmaaa", sum := "0c524a1a9283393eddbd02e7dbaf06a3323945cd32499324ec8232f58b505dcd", func := "dockmaster/dockmasterlaw05.WalNeeds", spec := "walNeeds", unfollowed := true, recurses := true, apart := false, narrowed := true }
def WalNeedsUptoSaid : Prop := walNeedsUptoRow.holds Try.pinned (OpenSpec.upto walNeedsSpec)

/-- 'dockmasterlaw05.WalSectors', WHERE WHAT IT READS IS OF BULK AT MOST 1048576: true; the input reads as it did. -/
def walSectorsUptoRow : OpenClaim := { program := "ytihmfccpgahmaaa", sum := "0c524a1a9283393eddbd02e7dbaf06a3323945cd32499324ec8232f58b505dcd", func := "dockmaster/dockmasterlaw05.WalSectors", spec := "walSectors", unfollowed := true, recurses := true, apart := false, narrowed := true }
def WalSectorsUptoSaid : Prop := walSectorsUptoRow.holds Try.pinned (OpenSpec.upto walSectorsSpec)

/-- 'dockmasterlaw05.WalLies', WHERE WHAT IT READS IS OF BULK AT MOST 1048576: true; the input reads as it did. -/
def walLiesUptoRow : OpenClaim := { program := "ytihmfccpgahmaaa", sum := "0c524a1a9283393eddbd02e7dbaf06a3323945cd32499324ec8232f58b505dcd", func := "dockmaster/dockmasterlaw05.WalLies", spec := "walLies", unfollowed := true, recurses := true, apart := false, narrowed := true }
def WalLiesUptoSaid : Prop := walLiesUptoRow.holds Try.pinned (OpenSpec.upto walLiesSpec)

/-- 'dockmasterlaw05.WalAlls', WHERE WHAT IT READS IS OF BULK AT MOST 1048576: true; the input reads as it did. -/
def walAllsUptoRow : OpenClaim := { program := "ytihmfccpgahmaaa", sum := "0c524a1a9283393eddbd02e7dbaf06a3323945cd32499324ec8232f58b505dcd", func := "dockmaster/dockmasterlaw05.WalAlls", spec := "walAlls", unfollowed := true, recurses := true, apart := false, narrowed := true }
def WalAllsUptoSaid : Prop := walAllsUptoRow.holds Try.pinned (OpenSpec.upto walAllsSpec)

/-- 'dockmasterlaw05.WalTail', WHERE WHAT IT READS IS OF BULK AT MOST 1048576: true; the input reads as it did. -/
def walTailUptoRow : OpenClaim := { program := "ytihmfccpgahmaaa", sum := "0c524a1a9283393eddbd02e7dbaf06a3323945cd32499324ec8232f58b505dcd", func := "dockmaster/dockmasterlaw05.WalTail", spec := "walTail", unfollowed := true, recurses := true, apart := false, narrowed := true }
def WalTailUptoSaid : Prop := walTailUptoRow.holds Try.pinned (OpenSpec.upto walTailSpec)

/-- 'dockmasterlaw05.WalRounds', WHERE WHAT IT READS IS OF BULK AT MOST 1048576: true; the input reads as it did. -/
def walRoundsUptoRow : OpenClaim := { program := "ytihmfccpgahmaaa", sum := "0c524a1a9283393eddbd02e7dbaf06a3323945cd32499324ec8232f58b505dcd", func := "dockmaster/dockmasterlaw05.WalRounds", spec := "walRounds", unfollowed := true, recurses := true, apart := false, narrowed := true }
def WalRoundsUptoSaid : Prop := walRoundsUptoRow.holds Try.pinned (OpenSpec.upto walRoundsSpec)

/-- 'dockmasterlaw05.WalBehind', WHERE WHAT IT READS IS OF BULK AT MOST 1048576: true; the input reads as it did. -/
def walBehindUptoRow : OpenClaim := { program := "ytihmfccpgahmaaa", sum := "0c524a1a9283393eddbd02e7dbaf06a3323945cd32499324ec8232f58b505dcd", func := "dockmaster/dockmasterlaw05.WalBehind", spec := "walBehind", unfollowed := true, recurses := true, apart := false, narrowed := true }
def WalBehindUptoSaid : Prop := walBehindUptoRow.holds Try.pinned (OpenSpec.upto walBehindSpec)

/-- 'dockmasterlaw05.WalErrors', WHERE WHAT IT READS IS OF BULK AT MOST 1048576: true; the input reads as it did. -/
def walErrorsUptoRow : OpenClaim := { program := "ytihmfccpgahmaaa", sum := "0c524a1a9283393eddbd02e7dbaf06a3323945cd32499324ec8232f58b505dcd", func := "dockmaster/dockmasterlaw05.WalErrors", spec := "walErrors", unfollowed := true, recurses := true, apart := false, narrowed := true }
def WalErrorsUptoSaid : Prop := walErrorsUptoRow.holds Try.pinned (OpenSpec.upto walErrorsSpec)

/-- 'dockmasterlaw05.WalKeeps', WHERE WHAT IT READS IS OF BULK AT MOST 1048576: true; the input reads as it did. -/
def walKeepsUptoRow : OpenClaim := { program := "ytihmfccpgahmaaa", sum := "0c524a1a9283393eddbd02e7dbaf06a3323945cd32499324ec8232f58b505dcd", func := "dockmaster/dockmasterlaw05.WalKeeps", spec := "walKeeps", unfollowed := true, recurses := true, apart := false, narrowed := true }
def WalKeepsUptoSaid : Prop := walKeepsUptoRow.holds Try.pinned (OpenSpec.upto walKeepsSpec)

end Rows
end Go.Proofs.Ytihmfccpgahmaaa
