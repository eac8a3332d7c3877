/- Rec.Right under the name that the printed texts use. Conditions: slices no longer than memory. -/
import Derived.Test.YtopfaeefhicljaaRcRight
namespace Go.Proofs.Ytopfaeefhicljaa.Q
open Go Go.RowKit Go.Proofs.YtopfaeefhicljaaW.PrintWords Go.Proofs.YtopfaeefhicljaaW.PrintMore Go.Proofs.YtopfaeefhicljaaW.PrintLast Go.Proofs.Ytopfaeefhicljaa.Leb Go.Proofs.Ytopfaeefhicljaa.Str
set_option linter.unusedVariables false
def rcFitB (x : RcV) : Bool := decide (x.nodes.length ≤ 1000000) && (decide (x.reads.length ≤ 1000000) && (pgFitB x.pages && (opFitB x.opens && dnFitB x.dones)))
theorem rcFit_iff {x : RcV} : rcFitB x = true ↔ RcFit x := by
  unfold rcFitB RcFit
  rw [Bool.and_eq_true, Bool.and_eq_true, Bool.and_eq_true, Bool.and_eq_true, decide_eq_true_iff, decide_eq_true_iff, pgFit_iff, opFit_iff, dnFit_iff]
def rec_Rec_Right.f (k : Nat) (a0_0 : Int) (a0_1 : Int) (a0_2 : Int) (a0_3 : ByteArray) (a0_4 : Bool) (a0_5 : ByteArray) (a0_6 : Int) (l0_7 : List Int) (l0_8 : List ByteArray) (l0_9 : List (S52)) (l0_10 : List (S56)) (l0_11 : List (S58)) : Option (Bool) :=
  if rcFitB ⟨a0_0, a0_1, a0_2, a0_3, a0_4, a0_5, a0_6, l0_7, l0_8, l0_9, l0_10, l0_11⟩ = true then some (rightR ⟨a0_0, a0_1, a0_2, a0_3, a0_4, a0_5, a0_6, l0_7, l0_8, l0_9, l0_10, l0_11⟩) else none
theorem rec_Rec_Right.mono : ∀ a0 a1 a2 a3 a4 a5 a6 a7 a8 a9 a10 a11 k, LeO (rec_Rec_Right.f k a0 a1 a2 a3 a4 a5 a6 a7 a8 a9 a10 a11) (rec_Rec_Right.f (k + 1) a0 a1 a2 a3 a4 a5 a6 a7 a8 a9 a10 a11) := fun _ _ _ _ _ _ _ _ _ _ _ _ _ _ h => h
theorem rec_Rec_Right.calls (k : Nat) (a0_0 : Int) (a0_1 : Int) (a0_2 : Int) (a0_3 : ByteArray) (a0_4 : Bool) (a0_5 : ByteArray) (a0_6 : Int) (A0_7 : Option Addr) (c0_7 : Nat) (l0_7 : List Int) (A0_8 : Option Addr) (c0_8 : Nat) (l0_8 : List ByteArray) (A0_9 : Option Addr) (c0_9 : Nat) (l0_9 : List (S52)) (A0_10 : Option Addr) (c0_10 : Nat) (l0_10 : List (S56)) (A0_11 : Option Addr) (c0_11 : Nat) (l0_11 : List (S58)) (r : Bool) (w : World) (hr0_7 : Kd.C (Kd.int .i64) w A0_7 l0_7.length l0_7) (hc0_7 : l0_7.length ≤ c0_7) (hr0_8 : Kd.C Kd.string w A0_8 l0_8.length l0_8) (hc0_8 : l0_8.length ≤ c0_8) (hr0_9 : Kd.C k52 w A0_9 l0_9.length l0_9) (hc0_9 : l0_9.length ≤ c0_9) (hr0_10 : Kd.C k56 w A0_10 l0_10.length l0_10) (hc0_10 : l0_10.length ≤ c0_10) (hr0_11 : Kd.C k58 w A0_11 l0_11.length l0_11) (hc0_11 : l0_11.length ≤ c0_11) (h : rec_Rec_Right.f k a0_0 a0_1 a0_2 a0_3 a0_4 a0_5 a0_6 l0_7 l0_8 l0_9 l0_10 l0_11 = some r) :
    Calls Try.prog 27 #[.agg #[.int .i64 a0_0, .int .u64 a0_1, .int .i64 a0_2, .string a0_3, .bool a0_4, .string a0_5, .int .u64 a0_6, .slice A0_7 l0_7.length c0_7, .slice A0_8 l0_8.length c0_8, .slice A0_9 l0_9.length c0_9, .slice A0_10 l0_10.length c0_10, .slice A0_11 l0_11.length c0_11]] w fun e w' => e = .returned (.bool r) ∧ Below w.heap.size w w' := by
  unfold rec_Rec_Right.f at h
  by_cases hf : rcFitB ⟨a0_0, a0_1, a0_2, a0_3, a0_4, a0_5, a0_6, l0_7, l0_8, l0_9, l0_10, l0_11⟩ = true
  · rw [if_pos hf] at h
    obtain rfl := Option.some.inj h
    exact right_ok ⟨a0_0, a0_1, a0_2, a0_3, a0_4, a0_5, a0_6, l0_7, l0_8, l0_9, l0_10, l0_11⟩ A0_7 A0_8 A0_9 A0_10 A0_11 c0_7 c0_8 c0_9 c0_10 c0_11 w hr0_7 hc0_7 hr0_8 hc0_8 hr0_9 hc0_9 hr0_10 hc0_10 hr0_11 hc0_11 (rcFit_iff.1 hf)
  · rw [if_neg hf] at h
    cases h
end Go.Proofs.Ytopfaeefhicljaa.Q
