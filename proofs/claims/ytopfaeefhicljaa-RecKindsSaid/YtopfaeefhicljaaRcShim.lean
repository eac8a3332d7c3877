/- rec.rightPages and rec.rightTable under the names that the printed texts use. Conditions: slices no longer than memory. -/
import Derived.Test.YtopfaeefhicljaaRcPages
import Derived.Test.YtopfaeefhicljaaRcTable
namespace Go.Proofs.Ytopfaeefhicljaa.Q
open Go Go.RowKit Go.Proofs.YtopfaeefhicljaaW.PrintWords Go.Proofs.YtopfaeefhicljaaW.PrintMore Go.Proofs.YtopfaeefhicljaaW.PrintLast Go.Proofs.Ytopfaeefhicljaa.Leb Go.Proofs.Ytopfaeefhicljaa.Str
set_option linter.unusedVariables false
def pgFitB (l : List S52) : Bool := l.all fun x => decide (x.f1.f1.length ≤ 1000000) && (decide (x.f1.f2.length ≤ 1000000) && decide (x.f1.f3.length ≤ 1000000))
def opFitB (l : List S56) : Bool := l.all fun x => decide (x.f5.length ≤ 1000000)
def dnFitB (l : List S58) : Bool := l.all fun x => decide (x.f1.length ≤ 1000000)
theorem pgFit_of {l : List S52} (h : pgFitB l = true) : PgFit l := by
  intro x hx
  have := List.all_eq_true.1 h x hx
  simpa using this
theorem opFit_of {l : List S56} (h : opFitB l = true) : OpFit l := by
  intro x hx
  have := List.all_eq_true.1 h x hx
  simpa using this
theorem dnFit_of {l : List S58} (h : dnFitB l = true) : DnFit l := by
  intro x hx
  have := List.all_eq_true.1 h x hx
  simpa using this
def rec_rightPages.f (k : Nat) (l0 : List S52) : Option Bool := if pgFitB l0 = true then some (pagesB l0) else none
theorem rec_rightPages.mono : ∀ a0 k, LeO (rec_rightPages.f k a0) (rec_rightPages.f (k + 1) a0) := fun _ _ _ h => h
theorem rec_rightPages.calls (k : Nat) (A0 : Option Addr) (c0 : Nat) (l0 : List S52) (r : Bool) (w : World) (hr0 : Kd.C k52 w A0 l0.length l0) (hc0 : l0.length ≤ c0) (h : rec_rightPages.f k l0 = some r) :
    Calls Try.prog 62 #[.slice A0 l0.length c0] w fun e w' => e = .returned (.bool r) ∧ Below w.heap.size w w' := by
  unfold rec_rightPages.f at h
  by_cases hf : pgFitB l0 = true
  · rw [if_pos hf] at h
    obtain rfl := Option.some.inj h
    exact pages_ok A0 c0 l0 w hr0 hc0 (pgFit_of hf)
  · rw [if_neg hf] at h
    cases h
def rec_rightTable.f (k : Nat) (l0 : List S56) (l1 : List S58) : Option Bool := if (opFitB l0 && dnFitB l1) = true then some (tableB l0 l1) else none
theorem rec_rightTable.mono : ∀ a0 a1 k, LeO (rec_rightTable.f k a0 a1) (rec_rightTable.f (k + 1) a0 a1) := fun _ _ _ _ h => h
theorem rec_rightTable.calls (k : Nat) (A0 : Option Addr) (c0 : Nat) (l0 : List S56) (A1 : Option Addr) (c1 : Nat) (l1 : List S58) (r : Bool) (w : World) (hr0 : Kd.C k56 w A0 l0.length l0) (hc0 : l0.length ≤ c0) (hr1 : Kd.C k58 w A1 l1.length l1) (hc1 : l1.length ≤ c1) (h : rec_rightTable.f k l0 l1 = some r) :
    Calls Try.prog 63 #[.slice A0 l0.length c0, .slice A1 l1.length c1] w fun e w' => e = .returned (.bool r) ∧ Below w.heap.size w w' := by
  unfold rec_rightTable.f at h
  by_cases hf : (opFitB l0 && dnFitB l1) = true
  · rw [if_pos hf] at h
    obtain rfl := Option.some.inj h
    rw [Bool.and_eq_true] at hf
    exact table_ok A0 c0 l0 A1 c1 l1 w hr0 hc0 (opFit_of hf.1) hr1 hc1 (dnFit_of hf.2)
  · rw [if_neg hf] at h
    cases h
end Go.Proofs.Ytopfaeefhicljaa.Q
