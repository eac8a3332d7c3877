/- What Right tells of a message, walked: one plain truth, condition by condition. No conditions beyond the kinds' own bounds. -/
import Derived.Test.YtolcmjoapnldiaaProg
import Derived.Below
import Derived.OwnWalk
import Derived.Tactics
import Derived.Tactics2
import Derived.WalkKit
import Derived.KernelRfl
import Derived.Deep.DeepCutAuto
import Derived.Deep.CutBlock
import Derived.Deep.RegionHeld3
import Derived.Test.YtolcmjoapnldiaaStr
namespace Go.Proofs.Ytolcmjoapnldiaa.Q
open Go Go.RowKit Go.Proofs.YtolcmjoapnldiaaW.PrintWords Go.Proofs.Ytolcmjoapnldiaa.Str
set_option linter.unusedVariables false
set_option linter.unusedSimpArgs false

def nodeB (n : Int) : Bool := decide (0 ≤ n) && decide (n < 64)
def hasL (k : Int) : Bool := k == 2 || k == 3 || k == 5
def hasN (k : Int) : Bool := k == 3 || k == 4 || k == 5
def hasO (k : Int) : Bool := k == 3
def hasA (k : Int) : Bool := k == 4 || k == 6

theorem node_ok (n : Int) (w : World) : Calls Try.prog 38 #[.int .i64 n] w fun e w' => e = .returned (.bool (nodeB n)) ∧ w = w' := by
  by_cases h : 0 ≤ n
  · by_cases h2 : n < 64
    · have e1 : nodeB n = true := by simp [nodeB, h, h2]
      rw [e1]
      go_enter Try.func38, Try.ntmps38
      go_wp2
      go_ret
      exact ⟨rfl, rfl⟩
    · have e1 : nodeB n = false := by simp [nodeB, h2]
      rw [e1]
      go_enter Try.func38, Try.ntmps38
      go_wp2
      go_ret
      exact ⟨rfl, rfl⟩
  · have e1 : nodeB n = false := by simp [nodeB, h]
    rw [e1]
    go_enter Try.func38, Try.ntmps38
    go_wp2
    go_ret
    exact ⟨rfl, rfl⟩

theorem kinds (k : Int) : k = 2 ∨ k = 3 ∨ k = 4 ∨ k = 5 ∨ k = 6 ∨ ((k == 2) = false ∧ (k == 3) = false ∧ (k == 4) = false ∧ (k == 5) = false ∧ (k == 6) = false) := by
  by_cases h2 : k = 2
  · exact .inl h2
  · by_cases h3 : k = 3
    · exact .inr (.inl h3)
    · by_cases h4 : k = 4
      · exact .inr (.inr (.inl h4))
      · by_cases h5 : k = 5
        · exact .inr (.inr (.inr (.inl h5)))
        · by_cases h6 : k = 6
          · exact .inr (.inr (.inr (.inr (.inl h6))))
          · exact .inr (.inr (.inr (.inr (.inr ⟨by simpa using h2, by simpa using h3, by simpa using h4, by simpa using h5, by simpa using h6⟩))))

theorem has_ok (k : Int) (w : World) : Calls Try.prog 36 #[.int .i64 k] w fun e w' => e = .returned (.tuple #[.bool (hasL k), .bool (hasN k), .bool (hasO k), .bool (hasA k)]) ∧ w = w' := by
  have K := kinds k
  rcases K with rfl | rfl | rfl | rfl | rfl | ⟨h2, h3, h4, h5, h6⟩
  all_goals
    go_enter Try.func36, Try.ntmps36
    go_wp2
    first
      | exact bodyPost_ret (v := .tuple #[.bool true, .bool false, .bool false, .bool false]) (by simp [results, Try.results36, go_sem]) rfl ⟨rfl, rfl⟩
      | exact bodyPost_ret (v := .tuple #[.bool true, .bool true, .bool true, .bool false]) (by simp [results, Try.results36, go_sem]) rfl ⟨rfl, rfl⟩
      | exact bodyPost_ret (v := .tuple #[.bool false, .bool true, .bool false, .bool true]) (by simp [results, Try.results36, go_sem]) rfl ⟨rfl, rfl⟩
      | exact bodyPost_ret (v := .tuple #[.bool true, .bool true, .bool false, .bool false]) (by simp [results, Try.results36, go_sem]) rfl ⟨rfl, rfl⟩
      | exact bodyPost_ret (v := .tuple #[.bool false, .bool false, .bool false, .bool true]) (by simp [results, Try.results36, go_sem]) rfl ⟨rfl, rfl⟩
      | exact bodyPost_ret (v := .tuple #[.bool false, .bool false, .bool false, .bool false]) (by simp [results, Try.results36, go_sem]) rfl ⟨by simp [hasL, hasN, hasO, hasA, h2, h3, h4, h5, h6], rfl⟩

/-- A message, by what it holds. -/
structure MsgV where
  (kind src dst tnum node life num op : Int)
  (key val : ByteArray)
  (has : Bool)
  (code : Int)

def MsgV.lay (m : MsgV) : Value := .agg #[.int .i64 m.kind, .int .i64 m.src, .int .i64 m.dst, .int .u64 m.tnum, .int .i64 m.node, .int .u64 m.life, .int .i64 m.num, .int .i64 m.op, .string m.key, .string m.val, .bool m.has, .int .i64 m.code]

/-- The conditions, as they stand one behind the other. -/
def rt1 (kind src dst node tnum : Int) : Bool := decide (kind < 1) || decide (10 < kind) || !nodeB src || !nodeB dst || !nodeB node || decide (1099511627776 < tnum)
def rt2 (l n : Bool) (life num : Int) : Bool := (!l && life != 0) || decide (1099511627776 < life) || (!n && num != 0) || decide (num < 0) || decide (1048576 < num)
def rt3 (o : Bool) (op : Int) (key : ByteArray) : Bool := (o && (decide (op < 1) || decide (3 < op) || key.toList.isEmpty || decide (24 < key.size))) || (!o && (op != 0 || !key.toList.isEmpty))
def rt4 (o : Bool) (kind op : Int) (val : ByteArray) (has : Bool) : Bool := (!val.toList.isEmpty && !(o && op == 2) && !(kind == 4 && has)) || decide (48 < val.size)
def rt5 (a : Bool) (kind : Int) (has : Bool) (code : Int) : Bool := (has && kind != 4) || (!a && code != 0) || decide (code < 0) || decide (17 < code)

def rightM (m : MsgV) : Bool :=
  !rt1 m.kind m.src m.dst m.node m.tnum && !rt2 (hasL m.kind) (hasN m.kind) m.life m.num && !rt3 (hasO m.kind) m.op m.key && !rt4 (hasO m.kind) m.kind m.op m.val m.has && !rt5 (hasA m.kind) m.kind m.has m.code

theorem hasL_k2 : hasL 2 = true := rfl
theorem hasN_k2 : hasN 2 = false := rfl
theorem hasO_k2 : hasO 2 = false := rfl
theorem hasA_k2 : hasA 2 = false := rfl
set_option maxRecDepth 100000 in
set_option maxHeartbeats 4000000 in
theorem right_k2 (src dst tnum node life num op : Int) (key val : ByteArray) (has : Bool) (code : Int) (w : World) (hk : key.size ≤ 9223372036854775807) (hv : val.size ≤ 9223372036854775807) :
    Calls Try.prog 31 #[MsgV.lay ⟨2, src, dst, tnum, node, life, num, op, key, val, has, code⟩] w
      fun e w' => e = .returned (.bool (rightM ⟨2, src, dst, tnum, node, life, num, op, key, val, has, code⟩)) ∧ Below w.heap.size w w' := by

  simp only [MsgV.lay, rightM, hasL_k2, hasN_k2, hasO_k2, hasA_k2]
  go_enter Try.func31, Try.ntmps31
  go_wp2_with (first
    | (go_at_call 36; refine (has_ok _ _).mono ?_; rintro e w' ⟨rfl, rfl⟩; simp only [hasL_k2, hasN_k2, hasO_k2, hasA_k2])
    | (go_at_call 38; refine (node_ok _ _).mono ?_; rintro e w' ⟨rfl, rfl⟩))
  all_goals
    go_ret
    exact ⟨by first | (simp [rt1, rt2, rt3, rt4, rt5, *]; done) | (simp [rt1, rt2, rt3, rt4, rt5, *]; omega) | (simp_all [rt1, rt2, rt3, rt4, rt5]; done) | (simp_all [rt1, rt2, rt3, rt4, rt5]; omega), below_alloc (Below.refl _ _) _⟩

theorem hasL_k3 : hasL 3 = true := rfl
theorem hasN_k3 : hasN 3 = true := rfl
theorem hasO_k3 : hasO 3 = true := rfl
theorem hasA_k3 : hasA 3 = false := rfl
set_option maxRecDepth 100000 in
set_option maxHeartbeats 4000000 in
theorem right_k3 (src dst tnum node life num op : Int) (key val : ByteArray) (has : Bool) (code : Int) (w : World) (hk : key.size ≤ 9223372036854775807) (hv : val.size ≤ 9223372036854775807) :
    Calls Try.prog 31 #[MsgV.lay ⟨3, src, dst, tnum, node, life, num, op, key, val, has, code⟩] w
      fun e w' => e = .returned (.bool (rightM ⟨3, src, dst, tnum, node, life, num, op, key, val, has, code⟩)) ∧ Below w.heap.size w w' := by

  simp only [MsgV.lay, rightM, hasL_k3, hasN_k3, hasO_k3, hasA_k3]
  go_enter Try.func31, Try.ntmps31
  go_wp2_with (first
    | (go_at_call 36; refine (has_ok _ _).mono ?_; rintro e w' ⟨rfl, rfl⟩; simp only [hasL_k3, hasN_k3, hasO_k3, hasA_k3])
    | (go_at_call 38; refine (node_ok _ _).mono ?_; rintro e w' ⟨rfl, rfl⟩))
  all_goals
    go_ret
    exact ⟨by first | (simp [rt1, rt2, rt3, rt4, rt5, *]; done) | (simp [rt1, rt2, rt3, rt4, rt5, *]; omega) | (simp_all [rt1, rt2, rt3, rt4, rt5]; done) | (simp_all [rt1, rt2, rt3, rt4, rt5]; omega), below_alloc (Below.refl _ _) _⟩

theorem hasL_k4 : hasL 4 = false := rfl
theorem hasN_k4 : hasN 4 = true := rfl
theorem hasO_k4 : hasO 4 = false := rfl
theorem hasA_k4 : hasA 4 = true := rfl
set_option maxRecDepth 100000 in
set_option maxHeartbeats 4000000 in
theorem right_k4 (src dst tnum node life num op : Int) (key val : ByteArray) (has : Bool) (code : Int) (w : World) (hk : key.size ≤ 9223372036854775807) (hv : val.size ≤ 9223372036854775807) :
    Calls Try.prog 31 #[MsgV.lay ⟨4, src, dst, tnum, node, life, num, op, key, val, has, code⟩] w
      fun e w' => e = .returned (.bool (rightM ⟨4, src, dst, tnum, node, life, num, op, key, val, has, code⟩)) ∧ Below w.heap.size w w' := by

  simp only [MsgV.lay, rightM, hasL_k4, hasN_k4, hasO_k4, hasA_k4]
  go_enter Try.func31, Try.ntmps31
  go_wp2_with (first
    | (go_at_call 36; refine (has_ok _ _).mono ?_; rintro e w' ⟨rfl, rfl⟩; simp only [hasL_k4, hasN_k4, hasO_k4, hasA_k4])
    | (go_at_call 38; refine (node_ok _ _).mono ?_; rintro e w' ⟨rfl, rfl⟩))
  all_goals
    go_ret
    exact ⟨by first | (simp [rt1, rt2, rt3, rt4, rt5, *]; done) | (simp [rt1, rt2, rt3, rt4, rt5, *]; omega) | (simp_all [rt1, rt2, rt3, rt4, rt5]; done) | (simp_all [rt1, rt2, rt3, rt4, rt5]; omega), below_alloc (Below.refl _ _) _⟩

theorem hasL_k5 : hasL 5 = true := rfl
theorem hasN_k5 : hasN 5 = true := rfl
theorem hasO_k5 : hasO 5 = false := rfl
theorem hasA_k5 : hasA 5 = false := rfl
set_option maxRecDepth 100000 in
set_option maxHeartbeats 4000000 in
theorem right_k5 (src dst tnum node life num op : Int) (key val : ByteArray) (has : Bool) (code : Int) (w : World) (hk : key.size ≤ 9223372036854775807) (hv : val.size ≤ 9223372036854775807) :
    Calls Try.prog 31 #[MsgV.lay ⟨5, src, dst, tnum, node, life, num, op, key, val, has, code⟩] w
      fun e w' => e = .returned (.bool (rightM ⟨5, src, dst, tnum, node, life, num, op, key, val, has, code⟩)) ∧ Below w.heap.size w w' := by

  simp only [MsgV.lay, rightM, hasL_k5, hasN_k5, hasO_k5, hasA_k5]
  go_enter Try.func31, Try.ntmps31
  go_wp2_with (first
    | (go_at_call 36; refine (has_ok _ _).mono ?_; rintro e w' ⟨rfl, rfl⟩; simp only [hasL_k5, hasN_k5, hasO_k5, hasA_k5])
    | (go_at_call 38; refine (node_ok _ _).mono ?_; rintro e w' ⟨rfl, rfl⟩))
  all_goals
    go_ret
    exact ⟨by first | (simp [rt1, rt2, rt3, rt4, rt5, *]; done) | (simp [rt1, rt2, rt3, rt4, rt5, *]; omega) | (simp_all [rt1, rt2, rt3, rt4, rt5]; done) | (simp_all [rt1, rt2, rt3, rt4, rt5]; omega), below_alloc (Below.refl _ _) _⟩

theorem hasL_k6 : hasL 6 = false := rfl
theorem hasN_k6 : hasN 6 = false := rfl
theorem hasO_k6 : hasO 6 = false := rfl
theorem hasA_k6 : hasA 6 = true := rfl
set_option maxRecDepth 100000 in
set_option maxHeartbeats 4000000 in
theorem right_k6 (src dst tnum node life num op : Int) (key val : ByteArray) (has : Bool) (code : Int) (w : World) (hk : key.size ≤ 9223372036854775807) (hv : val.size ≤ 9223372036854775807) :
    Calls Try.prog 31 #[MsgV.lay ⟨6, src, dst, tnum, node, life, num, op, key, val, has, code⟩] w
      fun e w' => e = .returned (.bool (rightM ⟨6, src, dst, tnum, node, life, num, op, key, val, has, code⟩)) ∧ Below w.heap.size w w' := by

  simp only [MsgV.lay, rightM, hasL_k6, hasN_k6, hasO_k6, hasA_k6]
  go_enter Try.func31, Try.ntmps31
  go_wp2_with (first
    | (go_at_call 36; refine (has_ok _ _).mono ?_; rintro e w' ⟨rfl, rfl⟩; simp only [hasL_k6, hasN_k6, hasO_k6, hasA_k6])
    | (go_at_call 38; refine (node_ok _ _).mono ?_; rintro e w' ⟨rfl, rfl⟩))
  all_goals
    go_ret
    exact ⟨by first | (simp [rt1, rt2, rt3, rt4, rt5, *]; done) | (simp [rt1, rt2, rt3, rt4, rt5, *]; omega) | (simp_all [rt1, rt2, rt3, rt4, rt5]; done) | (simp_all [rt1, rt2, rt3, rt4, rt5]; omega), below_alloc (Below.refl _ _) _⟩

theorem hasL_o {kind : Int} (h2 : (kind == 2) = false) (h3 : (kind == 3) = false) (h4 : (kind == 4) = false) (h5 : (kind == 5) = false) (h6 : (kind == 6) = false) : hasL kind = false := by simp [hasL, h2, h3, h4, h5, h6]
theorem hasN_o {kind : Int} (h2 : (kind == 2) = false) (h3 : (kind == 3) = false) (h4 : (kind == 4) = false) (h5 : (kind == 5) = false) (h6 : (kind == 6) = false) : hasN kind = false := by simp [hasN, h2, h3, h4, h5, h6]
theorem hasO_o {kind : Int} (h2 : (kind == 2) = false) (h3 : (kind == 3) = false) (h4 : (kind == 4) = false) (h5 : (kind == 5) = false) (h6 : (kind == 6) = false) : hasO kind = false := by simp [hasO, h2, h3, h4, h5, h6]
theorem hasA_o {kind : Int} (h2 : (kind == 2) = false) (h3 : (kind == 3) = false) (h4 : (kind == 4) = false) (h5 : (kind == 5) = false) (h6 : (kind == 6) = false) : hasA kind = false := by simp [hasA, h2, h3, h4, h5, h6]
set_option maxRecDepth 100000 in
set_option maxHeartbeats 4000000 in
theorem right_o (kind src dst tnum node life num op : Int) (key val : ByteArray) (has : Bool) (code : Int) (w : World) (hk : key.size ≤ 9223372036854775807) (hv : val.size ≤ 9223372036854775807) (h2 : (kind == 2) = false) (h3 : (kind == 3) = false) (h4 : (kind == 4) = false) (h5 : (kind == 5) = false) (h6 : (kind == 6) = false) :
    Calls Try.prog 31 #[MsgV.lay ⟨kind, src, dst, tnum, node, life, num, op, key, val, has, code⟩] w
      fun e w' => e = .returned (.bool (rightM ⟨kind, src, dst, tnum, node, life, num, op, key, val, has, code⟩)) ∧ Below w.heap.size w w' := by

  simp only [MsgV.lay, rightM, hasL_o h2 h3 h4 h5 h6, hasN_o h2 h3 h4 h5 h6, hasO_o h2 h3 h4 h5 h6, hasA_o h2 h3 h4 h5 h6]
  have n4 : ¬ kind = 4 := by simpa using h4
  go_enter Try.func31, Try.ntmps31
  go_wp2_with (first
    | (go_at_call 36; refine (has_ok _ _).mono ?_; rintro e w' ⟨rfl, rfl⟩; simp only [hasL_o h2 h3 h4 h5 h6, hasN_o h2 h3 h4 h5 h6, hasO_o h2 h3 h4 h5 h6, hasA_o h2 h3 h4 h5 h6])
    | (go_at_call 38; refine (node_ok _ _).mono ?_; rintro e w' ⟨rfl, rfl⟩))
  all_goals
    go_ret
    exact ⟨by first | (simp [rt1, rt2, rt3, rt4, rt5, h4, *]; done) | (simp [rt1, rt2, rt3, rt4, rt5, h4, *]; omega) | (simp_all [rt1, rt2, rt3, rt4, rt5]; done) | (simp_all [rt1, rt2, rt3, rt4, rt5]; omega), below_alloc (Below.refl _ _) _⟩

theorem right_ok (m : MsgV) (w : World) (hk : m.key.size ≤ 9223372036854775807) (hv : m.val.size ≤ 9223372036854775807) :
    Calls Try.prog 31 #[m.lay] w fun e w' => e = .returned (.bool (rightM m)) ∧ Below w.heap.size w w' := by
  obtain ⟨kind, src, dst, tnum, node, life, num, op, key, val, has, code⟩ := m
  rcases kinds kind with rfl | rfl | rfl | rfl | rfl | ⟨h2, h3, h4, h5, h6⟩
  · exact right_k2 src dst tnum node life num op key val has code w hk hv
  · exact right_k3 src dst tnum node life num op key val has code w hk hv
  · exact right_k4 src dst tnum node life num op key val has code w hk hv
  · exact right_k5 src dst tnum node life num op key val has code w hk hv
  · exact right_k6 src dst tnum node life num op key val has code w hk hv
  · exact right_o kind src dst tnum node life num op key val has code w hk hv h2 h3 h4 h5 h6

end Go.Proofs.Ytolcmjoapnldiaa.Q
