/-
  No cell of these rows narrows 'for every input' (looked for: loops, veiled, ifaces, maps, wideKeys, modest, calm, conditions, laid).
  DERIVED. THE GIVEN ROWS OF THIS SEAT. 12 by the template 'for every input the law returns true; each argument reads behind the call as it read before'; 0 by the template 'total and deterministic' (their statements: YtolcmjoapnldiaaTotals.lean).
  GIVEN WITH THE SEED: the statements are not yours to turn. If you find one false, say at which input.
  Laid BY PROGRAM, IN A SANDBOX (cutbox-rows.mjs): the forced cells as the released guide's own fill.sh prints them over the translation d736cf83d342d1cc… (all of the seat's roots in one cut). By AI agents, Wed Nov 11 2026. No macro, syntax, notation, axiom, sorry.
-/
import Derived.Test.YtolcmjoapnldiaaChecked
import GoSem.Claim
import GoSem.ClaimJoined
import GoSem.ClaimMapViews
import Derived.JoinedTies
import Derived.KernelRfl
namespace Go.Proofs.Ytolcmjoapnldiaa
/- THE CELL 'sum', in the pinned program and in every row, IS THE sha256 OF THE DUMP (.gsa) THAT YtolcmjoapnldiaaProg.lean LOADS. Nothing in Lean hashes anything: it is a label: what it is worth is what the hold of that sum in a sandbox is worth. -/
noncomputable def Try.pinned : Pinned := { name := "ytolcmjoapnldiaa", sum := "d736cf83d342d1cc0156cca99c3c045f07f4dd4e5c9a37ff746f58a82ed3e5cd", checked := Try.checked }
namespace Rows
def none {H : Type} : Left H := { results := [], args := [] }

/-- 'dockmasterlaw01.NumSizes': WHATEVER THE INPUT: true; the input reads as it did. -/
def numSizesSpec : ChangeSpec := { name := "numSizes", fn := fun _ => fun
  | [d1, d2] => { results := [.lit (.bool true)], args := [d1, d2] }
  | _ => none }
def numSizesRow : OpenClaim := { program := "ytolcmjoapnldiaa", sum := "d736cf83d342d1cc0156cca99c3c045f07f4dd4e5c9a37ff746f58a82ed3e5cd", func := "dockmaster/dockmasterlaw01.NumSizes", spec := "numSizes", apart := false }
def NumSizesSaid : Prop := numSizesRow.holds Try.pinned (OpenSpec.ofChange numSizesSpec)

/-- ITS FALSE NEIGHBOUR: 'it returns false'. Refute it at one input. -/
def numSizesWrong : ChangeSpec := { name := "numSizes", fn := fun _ => fun
  | [d1, d2] => { results := [.lit (.bool false)], args := [d1, d2] }
  | _ => none }
def NumSizesWrongFalsely : Prop := numSizesRow.holds Try.pinned (OpenSpec.ofChange numSizesWrong)

/-- 'dockmasterlaw01.NumApart': WHATEVER THE INPUT: true; the input reads as it did. -/
def numApartSpec : ChangeSpec := { name := "numApart", fn := fun _ => fun
  | [d1, d2, d3, d4, d5, d6] => { results := [.lit (.bool true)], args := [d1, d2, d3, d4, d5, d6] }
  | _ => none }
def numApartRow : OpenClaim := { program := "ytolcmjoapnldiaa", sum := "d736cf83d342d1cc0156cca99c3c045f07f4dd4e5c9a37ff746f58a82ed3e5cd", func := "dockmaster/dockmasterlaw01.NumApart", spec := "numApart", unfollowed := true, recurses := true, apart := false }
def NumApartSaid : Prop := numApartRow.holds Try.pinned (OpenSpec.ofChange numApartSpec)

/-- ITS FALSE NEIGHBOUR: 'it returns false'. Refute it at one input. -/
def numApartWrong : ChangeSpec := { name := "numApart", fn := fun _ => fun
  | [d1, d2, d3, d4, d5, d6] => { results := [.lit (.bool false)], args := [d1, d2, d3, d4, d5, d6] }
  | _ => none }
def NumApartWrongFalsely : Prop := numApartRow.holds Try.pinned (OpenSpec.ofChange numApartWrong)

/-- 'dockmasterlaw01.NumBehind': WHATEVER THE INPUT: true; the input reads as it did. -/
def numBehindSpec : ChangeSpec := { name := "numBehind", fn := fun _ => fun
  | [d1, d2, d3] => { results := [.lit (.bool true)], args := [d1, d2, d3] }
  | _ => none }
def numBehindRow : OpenClaim := { program := "ytolcmjoapnldiaa", sum := "d736cf83d342d1cc0156cca99c3c045f07f4dd4e5c9a37ff746f58a82ed3e5cd", func := "dockmaster/dockmasterlaw01.NumBehind", spec := "numBehind", apart := false }
def NumBehindSaid : Prop := numBehindRow.holds Try.pinned (OpenSpec.ofChange numBehindSpec)

/-- ITS FALSE NEIGHBOUR: 'it returns false'. Refute it at one input. -/
def numBehindWrong : ChangeSpec := { name := "numBehind", fn := fun _ => fun
  | [d1, d2, d3] => { results := [.lit (.bool false)], args := [d1, d2, d3] }
  | _ => none }
def NumBehindWrongFalsely : Prop := numBehindRow.holds Try.pinned (OpenSpec.ofChange numBehindWrong)

/-- 'dockmasterlaw01.NumElder': WHATEVER THE INPUT: true; the input reads as it did. -/
def numElderSpec : ChangeSpec := { name := "numElder", fn := fun _ => fun
  | [d1, d2, d3] => { results := [.lit (.bool true)], args := [d1, d2, d3] }
  | _ => none }
def numElderRow : OpenClaim := { program := "ytolcmjoapnldiaa", sum := "d736cf83d342d1cc0156cca99c3c045f07f4dd4e5c9a37ff746f58a82ed3e5cd", func := "dockmaster/dockmasterlaw01.NumElder", spec := "numElder", apart := false }
def NumElderSaid : Prop := numElderRow.holds Try.pinned (OpenSpec.ofChange numElderSpec)

/-- ITS FALSE NEIGHBOUR: 'it returns false'. Refute it at one input. -/
def numElderWrong : ChangeSpec := { name := "numElder", fn := fun _ => fun
  | [d1, d2, d3] => { results := [.lit (.bool false)], args := [d1, d2, d3] }
  | _ => none }
def NumElderWrongFalsely : Prop := numElderRow.holds Try.pinned (OpenSpec.ofChange numElderWrong)

/-- 'dockmasterlaw01.NumTids': WHATEVER THE INPUT: true; the input reads as it did. -/
def numTidsSpec : ChangeSpec := { name := "numTids", fn := fun _ => fun
  | [d] => { results := [.lit (.bool true)], args := [d] }
  | _ => none }
def numTidsRow : OpenClaim := { program := "ytolcmjoapnldiaa", sum := "d736cf83d342d1cc0156cca99c3c045f07f4dd4e5c9a37ff746f58a82ed3e5cd", func := "dockmaster/dockmasterlaw01.NumTids", spec := "numTids", apart := false }
def NumTidsSaid : Prop := numTidsRow.holds Try.pinned (OpenSpec.ofChange numTidsSpec)

/-- ITS FALSE NEIGHBOUR: 'it returns false'. Refute it at one input. -/
def numTidsWrong : ChangeSpec := { name := "numTids", fn := fun _ => fun
  | [d] => { results := [.lit (.bool false)], args := [d] }
  | _ => none }
def NumTidsWrongFalsely : Prop := numTidsRow.holds Try.pinned (OpenSpec.ofChange numTidsWrong)

/-- 'dockmasterlaw01.NumTexts': WHATEVER THE INPUT: true; the input reads as it did. -/
def numTextsSpec : ChangeSpec := { name := "numTexts", fn := fun _ => fun
  | [d1, d2] => { results := [.lit (.bool true)], args := [d1, d2] }
  | _ => none }
def numTextsRow : OpenClaim := { program := "ytolcmjoapnldiaa", sum := "d736cf83d342d1cc0156cca99c3c045f07f4dd4e5c9a37ff746f58a82ed3e5cd", func := "dockmaster/dockmasterlaw01.NumTexts", spec := "numTexts", apart := false }
def NumTextsSaid : Prop := numTextsRow.holds Try.pinned (OpenSpec.ofChange numTextsSpec)

/-- ITS FALSE NEIGHBOUR: 'it returns false'. Refute it at one input. -/
def numTextsWrong : ChangeSpec := { name := "numTexts", fn := fun _ => fun
  | [d1, d2] => { results := [.lit (.bool false)], args := [d1, d2] }
  | _ => none }
def NumTextsWrongFalsely : Prop := numTextsRow.holds Try.pinned (OpenSpec.ofChange numTextsWrong)

/-- 'dockmasterlaw15.MsgApart': WHATEVER THE INPUT: true; the input reads as it did. -/
def msgApartSpec : ChangeSpec := { name := "msgApart", fn := fun _ => fun
  | [d1, d2] => { results := [.lit (.bool true)], args := [d1, d2] }
  | _ => none }
def msgApartRow : OpenClaim := { program := "ytolcmjoapnldiaa", sum := "d736cf83d342d1cc0156cca99c3c045f07f4dd4e5c9a37ff746f58a82ed3e5cd", func := "dockmaster/dockmasterlaw15.MsgApart", spec := "msgApart", apart := false }
def MsgApartSaid : Prop := msgApartRow.holds Try.pinned (OpenSpec.ofChange msgApartSpec)

/-- ITS FALSE NEIGHBOUR: 'it returns false'. Refute it at one input. -/
def msgApartWrong : ChangeSpec := { name := "msgApart", fn := fun _ => fun
  | [d1, d2] => { results := [.lit (.bool false)], args := [d1, d2] }
  | _ => none }
def MsgApartWrongFalsely : Prop := msgApartRow.holds Try.pinned (OpenSpec.ofChange msgApartWrong)

/-- 'dockmasterlaw01.NumNil': WHATEVER THE INPUT: true; the input reads as it did. -/
def numNilSpec : ChangeSpec := { name := "numNil", fn := fun _ => fun
  | [d] => { results := [.lit (.bool true)], args := [d] }
  | _ => none }
def numNilRow : OpenClaim := { program := "ytolcmjoapnldiaa", sum := "d736cf83d342d1cc0156cca99c3c045f07f4dd4e5c9a37ff746f58a82ed3e5cd", func := "dockmaster/dockmasterlaw01.NumNil", spec := "numNil", apart := false }
def NumNilSaid : Prop := numNilRow.holds Try.pinned (OpenSpec.ofChange numNilSpec)

/-- ITS FALSE NEIGHBOUR: 'it returns false'. Refute it at one input. -/
def numNilWrong : ChangeSpec := { name := "numNil", fn := fun _ => fun
  | [d] => { results := [.lit (.bool false)], args := [d] }
  | _ => none }
def NumNilWrongFalsely : Prop := numNilRow.holds Try.pinned (OpenSpec.ofChange numNilWrong)

/-- 'dockmasterlaw01.NumPuts': WHATEVER THE INPUT: true; the input reads as it did. -/
def numPutsSpec : ChangeSpec := { name := "numPuts", fn := fun _ => fun
  | [d1, d2, d3] => { results := [.lit (.bool true)], args := [d1, d2, d3] }
  | _ => none }
def numPutsRow : OpenClaim := { program := "ytolcmjoapnldiaa", sum := "d736cf83d342d1cc0156cca99c3c045f07f4dd4e5c9a37ff746f58a82ed3e5cd", func := "dockmaster/dockmasterlaw01.NumPuts", spec := "numPuts", apart := false }
def NumPutsSaid : Prop := numPutsRow.holds Try.pinned (OpenSpec.ofChange numPutsSpec)

/-- ITS FALSE NEIGHBOUR: 'it returns false'. Refute it at one input. -/
def numPutsWrong : ChangeSpec := { name := "numPuts", fn := fun _ => fun
  | [d1, d2, d3] => { results := [.lit (.bool false)], args := [d1, d2, d3] }
  | _ => none }
def NumPutsWrongFalsely : Prop := numPutsRow.holds Try.pinned (OpenSpec.ofChange numPutsWrong)

/-- 'dockmasterlaw15.MsgCodes': WHATEVER THE INPUT: true; the input reads as it did. -/
def msgCodesSpec : ChangeSpec := { name := "msgCodes", fn := fun _ => fun
  | [d] => { results := [.lit (.bool true)], args := [d] }
  | _ => none }
def msgCodesRow : OpenClaim := { program := "ytolcmjoapnldiaa", sum := "d736cf83d342d1cc0156cca99c3c045f07f4dd4e5c9a37ff746f58a82ed3e5cd", func := "dockmaster/dockmasterlaw15.MsgCodes", spec := "msgCodes", unfollowed := true, recurses := true, apart := false }
def MsgCodesSaid : Prop := msgCodesRow.holds Try.pinned (OpenSpec.ofChange msgCodesSpec)

/-- ITS FALSE NEIGHBOUR: 'it returns false'. Refute it at one input. -/
def msgCodesWrong : ChangeSpec := { name := "msgCodes", fn := fun _ => fun
  | [d] => { results := [.lit (.bool false)], args := [d] }
  | _ => none }
def MsgCodesWrongFalsely : Prop := msgCodesRow.holds Try.pinned (OpenSpec.ofChange msgCodesWrong)

/-- 'dockmasterlaw15.MsgReads': WHATEVER THE INPUT: true; the input reads as it did. -/
def msgReadsSpec : ChangeSpec := { name := "msgReads", fn := fun _ => fun
  | [d] => { results := [.lit (.bool true)], args := [d] }
  | _ => none }
def msgReadsRow : OpenClaim := { program := "ytolcmjoapnldiaa", sum := "d736cf83d342d1cc0156cca99c3c045f07f4dd4e5c9a37ff746f58a82ed3e5cd", func := "dockmaster/dockmasterlaw15.MsgReads", spec := "msgReads", unfollowed := true, recurses := true, apart := false }
def MsgReadsSaid : Prop := msgReadsRow.holds Try.pinned (OpenSpec.ofChange msgReadsSpec)

/-- ITS FALSE NEIGHBOUR: 'it returns false'. Refute it at one input. -/
def msgReadsWrong : ChangeSpec := { name := "msgReads", fn := fun _ => fun
  | [d] => { results := [.lit (.bool false)], args := [d] }
  | _ => none }
def MsgReadsWrongFalsely : Prop := msgReadsRow.holds Try.pinned (OpenSpec.ofChange msgReadsWrong)

/-- 'dockmasterlaw15.MsgTurns': WHATEVER THE INPUT: true; the input reads as it did. -/
def msgTurnsSpec : ChangeSpec := { name := "msgTurns", fn := fun _ => fun
  | [d1, d2, d3] => { results := [.lit (.bool true)], args := [d1, d2, d3] }
  | _ => none }
def msgTurnsRow : OpenClaim := { program := "ytolcmjoapnldiaa", sum := "d736cf83d342d1cc0156cca99c3c045f07f4dd4e5c9a37ff746f58a82ed3e5cd", func := "dockmaster/dockmasterlaw15.MsgTurns", spec := "msgTurns", apart := false }
def MsgTurnsSaid : Prop := msgTurnsRow.holds Try.pinned (OpenSpec.ofChange msgTurnsSpec)

/-- ITS FALSE NEIGHBOUR: 'it returns false'. Refute it at one input. -/
def msgTurnsWrong : ChangeSpec := { name := "msgTurns", fn := fun _ => fun
  | [d1, d2, d3] => { results := [.lit (.bool false)], args := [d1, d2, d3] }
  | _ => none }
def MsgTurnsWrongFalsely : Prop := msgTurnsRow.holds Try.pinned (OpenSpec.ofChange msgTurnsWrong)

/- THE SECOND FORM. 'bulk': how many values and letters a reading holds, each counted each time it is reached (what is shared counts as often as it is met; a slice's spare places count too). A statement '..UptoSaid' is the law's where the arguments, and the package variables that the reading takes, are together of bulk at most 1048576: NARROWER than '..Said'. Prove '..Said' where nothing that the law and all that it calls make is longer than what came in: it says more and counts as full. Else prove '..UptoSaid'. A law counts once. -/
mutual
def uptoBulk {H : Type} : DataW H → Nat
  | .lit (.string bytes) => bytes.length + 1
  | .lit _ => 1
  | .nil => 1
  | .ptr d => uptoBulk d + 1
  | .slice elems spare => uptoBulkAll elems + uptoBulkAll spare + 1
  | .agg parts => uptoBulkAll parts + 1
  | .iface _ d => uptoBulk d + 1
  | .map entries => uptoBulkEntries entries + 1
  | .held _ => 1
def uptoBulkAll {H : Type} : List (DataW H) → Nat
  | [] => 0
  | d :: r => uptoBulk d + uptoBulkAll r
def uptoBulkEntries {H : Type} : List (Lit × DataW H) → Nat
  | [] => 0
  | x :: r => uptoBulkEntry x + uptoBulkEntries r
def uptoBulkEntry {H : Type} : Lit × DataW H → Nat
  | (.string bytes, d) => bytes.length + uptoBulk d + 1
  | (_, d) => uptoBulk d + 1
 end
def uptoSmall : (H : Type) → List (DataW H) → Bool := fun _ ds => decide (uptoBulkAll ds ≤ 1048576)
def OpenSpec.upto (s : _root_.Go.ChangeSpec) : _root_.Go.OpenSpec := { _root_.Go.OpenSpec.ofChange s with cond := some uptoSmall }

/-- 'dockmasterlaw01.NumSizes', WHERE WHAT IT READS IS OF BULK AT MOST 1048576: true; the input reads as it did. -/
def numSizesUptoRow : OpenClaim := { program := "ytolcmjoapnldiaa", sum := "d736cf83d342d1cc0156cca99c3c045f07f4dd4e5c9a37ff746f58a82ed3e5cd", func := "dockmaster/dockmasterlaw01.NumSizes", spec := "numSizes", apart := false, narrowed := true }
def NumSizesUptoSaid : Prop := numSizesUptoRow.holds Try.pinned (OpenSpec.upto numSizesSpec)

/-- 'dockmasterlaw01.NumApart', WHERE WHAT IT READS IS OF BULK AT MOST 1048576: true; the input reads as it did. -/
def numApartUptoRow : OpenClaim := { program := "ytolcmjoapnldiaa", sum := "d736cf83d342d1cc0156cca99c3c045f07f4dd4e5c9a37ff746f58a82ed3e5cd", func := "dockmaster/dockmasterlaw01.NumApart", spec := "numApart", unfollowed := true, recurses := true, apart := false, narrowed := true }
def NumApartUptoSaid : Prop := numApartUptoRow.holds Try.pinned (OpenSpec.upto numApartSpec)

/-- 'dockmasterlaw01.NumBehind', WHERE WHAT IT READS IS OF BULK AT MOST 1048576: true; the input reads as it did. -/
def numBehindUptoRow : OpenClaim := { program := "ytolcmjoapnldiaa", sum := "d736cf83d342d1cc0156cca99c3c045f07f4dd4e5c9a37ff746f58a82ed3e5cd", func := "dockmaster/dockmasterlaw01.NumBehind", spec := "numBehind", apart := false, narrowed := true }
def NumBehindUptoSaid : Prop := numBehindUptoRow.holds Try.pinned (OpenSpec.upto numBehindSpec)

/-- 'dockmasterlaw01.NumElder', WHERE WHAT IT READS IS OF BULK AT MOST 1048576: true; the input reads as it did. -/
def numElderUptoRow : OpenClaim := { program := "ytolcmjoapnldiaa", sum := "d736cf83d342d1cc0156cca99c3c045f07f4dd4e5c9a37ff746f58a82ed3e5cd", func := "dockmaster/dockmasterlaw01.NumElder", spec := "numElder", apart := false, narrowed := true }
def NumElderUptoSaid : Prop := numElderUptoRow.holds Try.pinned (OpenSpec.upto numElderSpec)

/-- 'dockmasterlaw01.NumTids', WHERE WHAT IT READS IS OF BULK AT MOST 1048576: true; the input reads as it did. -/
def numTidsUptoRow : OpenClaim := { program := "ytolcmjoapnldiaa", sum := "d736cf83d342d1cc0156cca99c3c045f07f4dd4e5c9a37ff746f58a82ed3e5cd", func := "dockmaster/dockmasterlaw01.NumTids", spec := "numTids", apart := false, narrowed := true }
def NumTidsUptoSaid : Prop := numTidsUptoRow.holds Try.pinned (OpenSpec.upto numTidsSpec)

/-- 'dockmasterlaw01.NumTexts', WHERE WHAT IT READS IS OF BULK AT MOST 1048576: true; the input reads as it did. -/
def numTextsUptoRow : OpenClaim := { program := "ytolcmjoapnldiaa", sum := "d736cf83d342d1cc0156cca99c3c045f07f4dd4e5c9a37ff746f58a82ed3e5cd", func := "dockmaster/dockmasterlaw01.NumTexts", spec := "numTexts", apart := false, narrowed := true }
def NumTextsUptoSaid : Prop := numTextsUptoRow.holds Try.pinned (OpenSpec.upto numTextsSpec)

/-- 'dockmasterlaw15.MsgApart', WHERE WHAT IT READS IS OF BULK AT MOST 1048576: true; the input reads as it did. -/
def msgApartUptoRow : OpenClaim := { program := "ytolcmjoapnldiaa", sum := "d736cf83d342d1cc0156cca99c3c045f07f4dd4e5c9a37ff746f58a82ed3e5cd", func := "dockmaster/dockmasterlaw15.MsgApart", spec := "msgApart", apart := false, narrowed := true }
def MsgApartUptoSaid : Prop := msgApartUptoRow.holds Try.pinned (OpenSpec.upto msgApartSpec)

/-- 'dockmasterlaw01.NumNil', WHERE WHAT IT READS IS OF BULK AT MOST 1048576: true; the input reads as it did. -/
def numNilUptoRow : OpenClaim := { program := "ytolcmjoapnldiaa", sum := "d736cf83d342d1cc0156cca99c3c045f07f4dd4e5c9a37ff746f58a82ed3e5cd", func := "dockmaster/dockmasterlaw01.NumNil", spec := "numNil", apart := false, narrowed := true }
def NumNilUptoSaid : Prop := numNilUptoRow.holds Try.pinned (OpenSpec.upto numNilSpec)

/-- 'dockmasterlaw01.NumPuts', WHERE WHAT IT READS IS OF BULK AT MOST 1048576: true; the input reads as it did. -/
def numPutsUptoRow : OpenClaim := { program := "ytolcmjoapnldiaa", sum := "d736cf83d342d1cc0156cca99c3c045f07f4dd4e5c9a37ff746f58a82ed3e5cd", func := "dockmaster/dockmasterlaw01.NumPuts", spec := "numPuts", apart := false, narrowed := true }
def NumPutsUptoSaid : Prop := numPutsUptoRow.holds Try.pinned (OpenSpec.upto numPutsSpec)

/-- 'dockmasterlaw15.MsgCodes', WHERE WHAT IT READS IS OF BULK AT MOST 1048576: true; the input reads as it did. -/
def msgCodesUptoRow : OpenClaim := { program := "ytolcmjoapnldiaa", sum := "d736cf83d342d1cc0156cca99c3c045f07f4dd4e5c9a37ff746f58a82ed3e5cd", func := "dockmaster/dockmasterlaw15.MsgCodes", spec := "msgCodes", unfollowed := true, recurses := true, apart := false, narrowed := true }
def MsgCodesUptoSaid : Prop := msgCodesUptoRow.holds Try.pinned (OpenSpec.upto msgCodesSpec)

/-- 'dockmasterlaw15.MsgReads', WHERE WHAT IT READS IS OF BULK AT MOST 1048576: true; the input reads as it did. -/
def msgReadsUptoRow : OpenClaim := { program := "ytolcmjoapnldiaa", sum := "d736cf83d342d1cc0156cca99c3c045f07f4dd4e5c9a37ff746f58a82ed3e5cd", func := "dockmaster/dockmasterlaw15.MsgReads", spec := "msgReads", unfollowed := true, recurses := true, apart := false, narrowed := true }
def MsgReadsUptoSaid : Prop := msgReadsUptoRow.holds Try.pinned (OpenSpec.upto msgReadsSpec)

/-- 'dockmasterlaw15.MsgTurns', WHERE WHAT IT READS IS OF BULK AT MOST 1048576: true; the input reads as it did. -/
def msgTurnsUptoRow : OpenClaim := { program := "ytolcmjoapnldiaa", sum := "d736cf83d342d1cc0156cca99c3c045f07f4dd4e5c9a37ff746f58a82ed3e5cd", func := "dockmaster/dockmasterlaw15.MsgTurns", spec := "msgTurns", apart := false, narrowed := true }
def MsgTurnsUptoSaid : Prop := msgTurnsUptoRow.holds Try.pinned (OpenSpec.upto msgTurnsSpec)

end Rows
end Go.Proofs.Ytolcmjoapnldiaa
