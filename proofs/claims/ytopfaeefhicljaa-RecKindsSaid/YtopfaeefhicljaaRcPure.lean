/- Records as plain data: what rec's small checks tell. Conditions: slices no longer than memory. -/
import Derived.Test.YtopfaeefhicljaaPgPure
import Derived.Test.YtopfaeefhicljaaR7
import Derived.Test.YtopfaeefhicljaaR8
import Derived.Test.YtopfaeefhicljaaR9
import Derived.Test.YtopfaeefhicljaaR11
namespace Go.Proofs.Ytopfaeefhicljaa.Q
open Go Go.RowKit Go.Proofs.YtopfaeefhicljaaW.PrintWords Go.Proofs.Ytopfaeefhicljaa.Leb Go.Proofs.Ytopfaeefhicljaa.Str
set_option linter.unusedVariables false
set_option linter.unusedSimpArgs false
def tidB (a b : Int) : Bool := decide (a ≤ 1099511627776 ∧ 0 ≤ b ∧ b < 64)
theorem tid_f (a b : Int) : rec_rightTid.f a b = some (tidB a b) := by
  unfold rec_rightTid.f tidB
  by_cases h1 : a ≤ 1099511627776
  · rw [if_pos h1]
    by_cases h2 : b ≥ 0
    · rw [if_pos h2]
      congr 1
      exact decide_eq_decide.2 (by omega)
    · rw [if_neg h2]
      congr 1
      exact (decide_eq_false (by omega)).symm
  · rw [if_neg h1]
    congr 1
    exact (decide_eq_false (by omega)).symm
def eldB (a b c d : Int) : Bool := decide (a < c ∨ (a = c ∧ b < d))
theorem elder_f (a b c d : Int) : api_Tid_Elder.f a b c d = some (eldB a b c d) := by
  unfold api_Tid_Elder.f eldB
  by_cases h1 : a < c
  · rw [if_pos h1]
    congr 1
    exact (decide_eq_true (.inl h1)).symm
  · rw [if_neg h1]
    by_cases h2 : a = c
    · rw [if_pos h2]
      congr 1
      exact decide_eq_decide.2 (by omega)
    · rw [if_neg h2]
      congr 1
      exact (decide_eq_false (by omega)).symm
/-- Nodes that rise. -/
def nodeAt (l : List Int) (i : Nat) : Bool := decide (0 ≤ l.getD i 0) && (decide (l.getD i 0 < 64) && (decide (i = 0) || decide (l.getD (i - 1) 0 < l.getD i 0)))
def nodesB (l : List Int) : Bool := (List.range' 0 l.length).all (nodeAt l)
theorem nodes_l0 (l : List Int) (hl : l.length < 4611686018427387904) : ∀ (d i k : Nat), i + d = l.length → d < k →
    rec_risingNodes.l0 k l l (l.length : Int) (i : Int) = some ((List.range' i d).all (nodeAt l)) := by
  intro d
  induction d with
  | zero =>
    intro i k h hk
    obtain ⟨k, rfl⟩ : ∃ m, k = m + 1 := ⟨k - 1, by omega⟩
    simp only [rec_risingNodes.l0]
    rw [if_neg (by omega)]
    rfl
  | succ d ih =>
    intro i k h hk
    obtain ⟨k, rfl⟩ : ∃ m, k = m + 1 := ⟨k - 1, by omega⟩
    simp only [rec_risingNodes.l0]
    rw [if_pos (by omega), if_pos (by omega), if_pos (by omega)]
    rw [List.range'_succ, List.all_cons]
    have e1 : rd l (i : Int) = l.getD i 0 := by simp [rd]
    rw [e1]
    have n1 : wrap64 ((i : Int) + 1) = ((i + 1 : Nat) : Int) := by rw [wrap64_id _ (by omega) (by omega)]; omega
    rw [n1, ih (i + 1) k (by omega) (by omega)]
    generalize hy : l.getD i 0 = y
    unfold nodeAt
    rw [hy]
    by_cases h1 : y < 0
    · rw [if_pos h1]
      rw [decide_eq_false (show ¬ 0 ≤ y by omega)]
      rfl
    · rw [if_neg h1, decide_eq_true (show 0 ≤ y by omega), Bool.true_and]
      by_cases h2 : y ≥ 64
      · rw [if_pos h2, decide_eq_false (show ¬ y < 64 by omega)]
        rfl
      · rw [if_neg h2, decide_eq_true (show y < 64 by omega), Bool.true_and]
        by_cases h3 : i = 0
        · subst h3
          rw [if_neg (by omega)]
          simp
        · rw [if_pos (by omega)]
          have n2 : wrap64 ((i : Int) - 1) = ((i - 1 : Nat) : Int) := by rw [wrap64_id _ (by omega) (by omega)]; omega
          rw [n2, if_pos (by omega), if_pos (by omega)]
          have e2 : rd l ((i - 1 : Nat) : Int) = l.getD (i - 1) 0 := by simp [rd]
          rw [e2, decide_eq_false h3, Bool.false_or]
          by_cases h4 : l.getD (i - 1) 0 ≥ y
          · rw [if_pos h4, decide_eq_false (show ¬ l.getD (i - 1) 0 < y by omega)]; rfl
          · rw [if_neg h4, decide_eq_true (show l.getD (i - 1) 0 < y by omega)]; rfl
theorem nodes_f (l : List Int) (k : Nat) (hl : l.length < 4611686018427387904) (hk : l.length < k) : rec_risingNodes.f k l = some (nodesB l) := by
  unfold rec_risingNodes.f nodesB
  exact nodes_l0 l hl l.length 0 k (by omega) hk
/-- Keys that rise, and aren't too many. -/
def keysB (l : List ByteArray) : Bool := riseB l && decide (l.length ≤ 100)
theorem keys_l0 (l : List ByteArray) (hl : l.length < 4611686018427387904) : ∀ (d i k : Nat), i + d = l.length → d < k →
    rec_rightKeys.l0 k l l (l.length : Int) (i : Int) = some ((List.range' i d).all (riseAt l) && decide (l.length ≤ 100)) := by
  intro d
  induction d with
  | zero =>
    intro i k h hk
    obtain ⟨k, rfl⟩ : ∃ m, k = m + 1 := ⟨k - 1, by omega⟩
    simp only [rec_rightKeys.l0]
    rw [if_neg (by omega)]
    simp
    try omega
  | succ d ih =>
    intro i k h hk
    obtain ⟨k, rfl⟩ : ∃ m, k = m + 1 := ⟨k - 1, by omega⟩
    simp only [rec_rightKeys.l0]
    rw [if_pos (by omega), if_pos (by omega), if_pos (by omega)]
    rw [List.range'_succ, List.all_cons]
    have e1 : rdOf ByteArray.empty l (i : Int) = l.getD i ByteArray.empty := by simp [rdOf]
    rw [e1]
    have n1 : wrap64 ((i : Int) + 1) = ((i + 1 : Nat) : Int) := by rw [wrap64_id _ (by omega) (by omega)]; omega
    rw [n1, ih (i + 1) k (by omega) (by omega)]
    generalize hy : l.getD i ByteArray.empty = y
    unfold riseAt
    rw [hy]
    by_cases h1 : y.size < 1
    · rw [if_pos ((toList_nil_iff y).2 h1)]
      simp [show y.size = 0 by omega]
    · rw [if_neg (fun h => h1 ((toList_nil_iff y).1 h))]
      by_cases h2 : (y.size : Int) > 24
      · rw [if_pos h2]
        have : ¬ y.size ≤ 24 := by omega
        simp [this]
      · rw [if_neg h2]
        have e3 : decide (1 ≤ y.size) = true := decide_eq_true (by omega)
        have e4 : decide (y.size ≤ 24) = true := decide_eq_true (by omega)
        rw [e3, e4, Bool.true_and, Bool.true_and]
        by_cases h3 : i = 0
        · subst h3
          rw [if_neg (by omega)]
          simp
        · rw [if_pos (by omega)]
          have n2 : wrap64 ((i : Int) - 1) = ((i - 1 : Nat) : Int) := by rw [wrap64_id _ (by omega) (by omega)]; omega
          rw [n2, if_pos (by omega), if_pos (by omega)]
          have e2 : rdOf ByteArray.empty l ((i - 1 : Nat) : Int) = l.getD (i - 1) ByteArray.empty := by simp [rdOf]
          rw [e2, decide_eq_false h3, Bool.false_or]
          generalize Op.bytesLess (l.getD (i - 1) ByteArray.empty).toList y.toList = b
          cases b
          · rw [if_neg (by simp)]; rfl
          · rw [if_pos rfl]; rfl
theorem keys_f (l : List ByteArray) (k : Nat) (hl : l.length < 4611686018427387904) (hk : l.length < k) : rec_rightKeys.f k l = some (keysB l) := by
  unfold rec_rightKeys.f keysB riseB
  exact keys_l0 l hl l.length 0 k (by omega) hk
end Go.Proofs.Ytopfaeefhicljaa.Q
