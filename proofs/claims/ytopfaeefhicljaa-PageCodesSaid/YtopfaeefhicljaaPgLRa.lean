/- The law's own 'right' of a page, walked: it tells what Right tells. Conditions: slices no longer than memory. -/
import Derived.Test.YtopfaeefhicljaaPgS
import Derived.LoopTactic
import Derived.Laws.Cover1
namespace Go.Proofs.Ytopfaeefhicljaa.Q
open Go Go.RowKit Go.Proofs.YtopfaeefhicljaaW.PrintWords Go.Proofs.Ytopfaeefhicljaa.Leb Go.Proofs.Ytopfaeefhicljaa.Str
set_option linter.unusedVariables false
set_option linter.unusedSimpArgs false

theorem rise_prefix {l : List ByteArray} (h : riseB l = true) {k : Nat} (hk : k < l.length) : riseAt l k = true := by
  unfold riseB at h
  rw [List.all_eq_true] at h
  exact h k (by rw [List.mem_range'_1]; omega)
theorem rise_all {l : List ByteArray} (h : ∀ k, k < l.length → riseAt l k = true) : riseB l = true := by
  unfold riseB
  rw [List.all_eq_true]
  intro k hk
  rw [List.mem_range'_1] at hk
  exact h k (by omega)

/-- What the test of the k-th key finds. -/
theorem rise_cases (l : List ByteArray) (k : Nat) :
    (riseAt l k = false ∧ (l.getD k ByteArray.empty).size < 1)
    ∨ (riseAt l k = false ∧ 1 ≤ (l.getD k ByteArray.empty).size ∧ 24 < (l.getD k ByteArray.empty).size)
    ∨ (riseAt l k = true ∧ 1 ≤ (l.getD k ByteArray.empty).size ∧ (l.getD k ByteArray.empty).size ≤ 24 ∧ k = 0)
    ∨ (1 ≤ (l.getD k ByteArray.empty).size ∧ (l.getD k ByteArray.empty).size ≤ 24 ∧ 0 < k ∧ riseAt l k = Op.bytesLess (l.getD (k - 1) ByteArray.empty).toList (l.getD k ByteArray.empty).toList) := by
  unfold riseAt
  generalize l.getD k ByteArray.empty = y
  by_cases h1 : y.size < 1
  · left
    exact ⟨by rw [decide_eq_false (by omega)]; rfl, h1⟩
  · right
    by_cases h2 : 24 < y.size
    · left
      exact ⟨by rw [decide_eq_true (show 1 ≤ y.size by omega), decide_eq_false (show ¬ y.size ≤ 24 by omega)]; rfl, by omega, h2⟩
    · right
      rw [decide_eq_true (show 1 ≤ y.size by omega), decide_eq_true (show y.size ≤ 24 by omega), Bool.true_and, Bool.true_and]
      by_cases h3 : k = 0
      · left
        exact ⟨by rw [decide_eq_true h3]; rfl, by omega, by omega, h3⟩
      · right
        exact ⟨by omega, by omega, by omega, by rw [decide_eq_false h3]; rfl⟩

theorem none_ways (p : PgV) : ((p.root == 0) = false ∧ noneB p = false) ∨ ((p.root == 0) = true ∧ (p.next == 0) = false ∧ noneB p = false) ∨ ((p.root == 0) = true ∧ (p.next == 0) = true ∧ (p.size == 0) = false ∧ noneB p = false)
    ∨ ((p.root == 0) = true ∧ (p.next == 0) = true ∧ (p.size == 0) = true ∧ (p.idle == 0) = false ∧ noneB p = false) ∨ ((p.root == 0) = true ∧ (p.next == 0) = true ∧ (p.size == 0) = true ∧ (p.idle == 0) = true ∧ noneB p = true) := by
  unfold noneB
  by_cases a : p.root = 0 <;> by_cases b : p.next = 0 <;> by_cases c : p.size = 0 <;> by_cases d : p.idle = 0 <;> simp [a, b, c, d]

def inB (n : Int) : Bool := decide (0 ≤ n ∧ n < 65536)
theorem inl_ok (n : Int) (w : World) : Calls Try.prog 47 #[.int .i64 n] w fun e w' => e = .returned (.bool (inB n)) ∧ w = w' := by
  unfold inB
  by_cases h : 0 ≤ n
  · by_cases h2 : n ≤ 65535
    · rw [decide_eq_true (show 0 ≤ n ∧ n < 65536 by omega)]
      go_enter Try.func47, Try.ntmps47
      go_wp2
      go_ret
      exact ⟨rfl, rfl⟩
    · rw [decide_eq_false (show ¬ (0 ≤ n ∧ n < 65536) by omega)]
      go_enter Try.func47, Try.ntmps47
      go_wp2
      go_ret
      exact ⟨rfl, rfl⟩
  · rw [decide_eq_false (show ¬ (0 ≤ n ∧ n < 65536) by omega)]
    go_enter Try.func47, Try.ntmps47
    go_wp2
    go_ret
    exact ⟨rfl, rfl⟩

/-- The law's 'right' answers b. -/
def Tells (p : PgV) (A1 : Option Addr) (c1 : Nat) (A2 : Option Addr) (c2 : Nat) (A3 : Option Addr) (c3 : Nat) (w : World) (b : Bool) : Prop :=
  Calls Try.prog 21 #[p.lay A1 c1 A2 c2 A3 c3] w fun e w' => e = .returned (.bool b) ∧ Below w.heap.size w w'

set_option maxHeartbeats 8000000 in
set_option maxRecDepth 100000 in
theorem lr_rise (p : PgV) (A1 : Option Addr) (c1 : Nat) (A2 : Option Addr) (c2 : Nat) (A3 : Option Addr) (c3 : Nat) (w : World) (hR : PgR w p A1 c1 A2 c2 A3 c3) (RB : Aside0 (riseB p.keys = false))  : Tells p A1 c1 A2 c2 A3 c3 w (rightP p) := by
  have BX := Aside0.mk (PBox.new p A1 c1 A2 c2 A3 c3 w)
  have HW := Aside0.mk (hR.below (below_alloc (Below.refl _ _) (.cells #[.int .i64 p.kind, .slice A1 p.keys.length c1, .slice A2 p.vals.length c2, .slice A3 p.kids.length c3, .int .i64 p.root, .int .i64 p.next, .int .i64 p.size, .int .i64 p.idle] 27)))
  have HB := Aside0.mk (below_alloc (Below.refl w.heap.size w) (.cells #[.int .i64 p.kind, .slice A1 p.keys.length c1, .slice A2 p.vals.length c2, .slice A3 p.kids.length c3, .int .i64 p.root, .int .i64 p.next, .int .i64 p.size, .int .i64 p.idle] 27))
  have m1 := hR.r1.2.1
  have m2 := hR.r2.2.1
  have m3 := hR.r3.2.1
  have hfin : rightP p = false := by unfold rightP; rw [RB.out]; rfl
  rw [hfin]
  clear hfin
  unfold Tells PgV.lay
  clear hR
  go_enter Try.func21, Try.ntmps21
  go_wp2
  generalize w.alloc (.cells #[.int .i64 p.kind, .slice A1 p.keys.length c1, .slice A2 p.vals.length c2, .slice A3 p.kids.length c3, .int .i64 p.root, .int .i64 p.next, .int .i64 p.size, .int .i64 p.idle] 27) = W at BX HW HB ⊢
  obtain ⟨_, d0, d1, d2, d3, d4, d5, d6, d7⟩ := BX.out
  clear BX
  go_loop [14] (fun i => ∃ k : Nat, k ≤ p.keys.length ∧ i = .int .i64 k ∧ Aside0 (∀ j, j < k → riseAt p.keys j = true)) (fun i => p.keys.length - (intOf i).toNat)
  case atStart => exact ⟨0, Nat.zero_le _, rfl, ⟨fun j h => by omega⟩⟩
  case round =>
    obtain ⟨k, hk, rfl, hn⟩ := hrel
    by_cases hlt : k < p.keys.length
    · obtain ⟨ad, hA, hcell⟩ := Kd.at_string HW.out.r1 (k : Int) (by omega) (by omega)
      cases hA
      have hc1 : W.cell? (ad.add k) = some (.string (p.keys.getD k ByteArray.empty)) := by simpa [rdOf] using hcell
      clear hcell
      rcases rise_cases p.keys k with ⟨hx, g1⟩ | ⟨hx, g1, g2⟩ | ⟨hx, g1, g2, g3⟩ | ⟨g1, g2, g3, hx⟩
      · have b1 : decide (((p.keys.getD k ByteArray.empty).size : Int) < 1) = true := decide_eq_true (by omega)
        have b2 : decide ((p.keys.getD k ByteArray.empty).size < 1) = true := decide_eq_true (by omega)
        have HX := Aside0.mk hx
        clear hx
        clear g1
        generalize p.keys.getD k ByteArray.empty = y at *
        go_wp2
        go_ret
        exact ⟨rfl, HB.out⟩
      · have b1 : decide (((p.keys.getD k ByteArray.empty).size : Int) < 1) = false := decide_eq_false (by omega)
        have b2 : decide ((p.keys.getD k ByteArray.empty).size < 1) = false := decide_eq_false (by omega)
        have b3 : decide (24 < ((p.keys.getD k ByteArray.empty).size : Int)) = true := decide_eq_true (by omega)
        have b4 : decide (24 < (p.keys.getD k ByteArray.empty).size) = true := decide_eq_true (by omega)
        have HX := Aside0.mk hx
        clear hx
        clear g1 g2
        generalize p.keys.getD k ByteArray.empty = y at *
        go_wp2
        go_ret
        exact ⟨rfl, HB.out⟩
      · have b1 : decide (((p.keys.getD k ByteArray.empty).size : Int) < 1) = false := decide_eq_false (by omega)
        have b2 : decide ((p.keys.getD k ByteArray.empty).size < 1) = false := decide_eq_false (by omega)
        have b3 : decide (24 < ((p.keys.getD k ByteArray.empty).size : Int)) = false := decide_eq_false (by omega)
        have b4 : decide (24 < (p.keys.getD k ByteArray.empty).size) = false := decide_eq_false (by omega)
        have b5 : decide ((0 : Int) < (k : Int)) = false := decide_eq_false (by omega)
        have b6 : decide (0 < k) = false := decide_eq_false (by omega)
        have HX := Aside0.mk hx
        clear hx
        clear g1 g2 g3
        generalize p.keys.getD k ByteArray.empty = y at *
        go_wp2
        go_round
        case rel => exact ⟨k + 1, by omega, by go_num, ⟨fun j hj => by rcases Nat.lt_or_ge j k with h | h; exact hn.out j h; rw [show j = k by omega]; exact HX.out⟩⟩
        case measure => simp [intOf]; omega
      · have b1 : decide (((p.keys.getD k ByteArray.empty).size : Int) < 1) = false := decide_eq_false (by omega)
        have b2 : decide ((p.keys.getD k ByteArray.empty).size < 1) = false := decide_eq_false (by omega)
        have b3 : decide (24 < ((p.keys.getD k ByteArray.empty).size : Int)) = false := decide_eq_false (by omega)
        have b4 : decide (24 < (p.keys.getD k ByteArray.empty).size) = false := decide_eq_false (by omega)
        obtain ⟨ad2, hA2, hcell2⟩ := Kd.at_string HW.out.r1 ((k - 1 : Nat) : Int) (by omega) (by omega)
        cases hA2
        have hc2 : W.cell? (ad.add (k - 1)) = some (.string (p.keys.getD (k - 1) ByteArray.empty)) := by simpa [rdOf] using hcell2
        clear hcell2
        have b5 : decide ((0 : Int) < (k : Int)) = true := decide_eq_true (by omega)
        have b6 : decide (0 < k) = true := decide_eq_true g3
        rcases Bool.eq_false_or_eq_true (riseAt p.keys k) with hb | hb
        · have hl : Op.bytesLess (p.keys.getD (k - 1) ByteArray.empty).toList (p.keys.getD k ByteArray.empty).toList = true := by rw [← hx]; exact hb
          have HX := Aside0.mk hb
          clear hx hb g1 g2
          generalize p.keys.getD k ByteArray.empty = y at *
          generalize p.keys.getD (k - 1) ByteArray.empty = y2 at *
          go_wp2
          go_round
          case rel => exact ⟨k + 1, by omega, by go_num, ⟨fun j hj => by rcases Nat.lt_or_ge j k with h | h; exact hn.out j h; rw [show j = k by omega]; exact HX.out⟩⟩
          case measure => simp [intOf]; omega
        · have hl : Op.bytesLess (p.keys.getD (k - 1) ByteArray.empty).toList (p.keys.getD k ByteArray.empty).toList = false := by rw [← hx]; exact hb
          have HX := Aside0.mk hb
          clear hx hb g1 g2
          generalize p.keys.getD k ByteArray.empty = y at *
          generalize p.keys.getD (k - 1) ByteArray.empty = y2 at *
          go_wp2
          go_ret
          exact ⟨rfl, HB.out⟩
    · exact absurd (rise_all (fun j hj => hn.out j (by omega))) (by rw [RB.out]; simp)

set_option maxHeartbeats 8000000 in
set_option maxRecDepth 100000 in
theorem lr_kind1 (p : PgV) (A1 : Option Addr) (c1 : Nat) (A2 : Option Addr) (c2 : Nat) (A3 : Option Addr) (c3 : Nat) (w : World) (hR : PgR w p A1 c1 A2 c2 A3 c3) (RB : Aside0 (riseB p.keys = true)) (k1 : (p.kind == 1) = true) : Tells p A1 c1 A2 c2 A3 c3 w (rightP p) := by
  have BX := Aside0.mk (PBox.new p A1 c1 A2 c2 A3 c3 w)
  have HW := Aside0.mk (hR.below (below_alloc (Below.refl _ _) (.cells #[.int .i64 p.kind, .slice A1 p.keys.length c1, .slice A2 p.vals.length c2, .slice A3 p.kids.length c3, .int .i64 p.root, .int .i64 p.next, .int .i64 p.size, .int .i64 p.idle] 27)))
  have HB := Aside0.mk (below_alloc (Below.refl w.heap.size w) (.cells #[.int .i64 p.kind, .slice A1 p.keys.length c1, .slice A2 p.vals.length c2, .slice A3 p.kids.length c3, .int .i64 p.root, .int .i64 p.next, .int .i64 p.size, .int .i64 p.idle] 27))
  have m1 := hR.r1.2.1
  have m2 := hR.r2.2.1
  have m3 := hR.r3.2.1
  have E0 : rightP p = rightK p := by unfold rightP; rw [RB.out]; rfl
  rw [E0]
  clear E0
  have e : rightK p = (decide (p.keys.length ≤ 6 ∧ p.vals.length = p.keys.length ∧ p.kids.length = 0) && (noneB p && p.vals.all fun v => decide (v.size ≤ 48))) := by unfold rightK; rw [if_pos (by simpa using k1)]
  rw [e]
  clear e
  unfold Tells PgV.lay
  clear hR
  have NW := Aside0.mk (none_ways p)
  go_enter Try.func21, Try.ntmps21
  go_wp2
  generalize w.alloc (.cells #[.int .i64 p.kind, .slice A1 p.keys.length c1, .slice A2 p.vals.length c2, .slice A3 p.kids.length c3, .int .i64 p.root, .int .i64 p.next, .int .i64 p.size, .int .i64 p.idle] 27) = W at BX HW HB ⊢
  obtain ⟨_, d0, d1, d2, d3, d4, d5, d6, d7⟩ := BX.out
  clear BX
  go_loop [14] (fun i => ∃ k : Nat, k ≤ p.keys.length ∧ i = .int .i64 k ∧ Aside0 (∀ j, j < k → riseAt p.keys j = true)) (fun i => p.keys.length - (intOf i).toNat)
  case atStart => exact ⟨0, Nat.zero_le _, rfl, ⟨fun j h => by omega⟩⟩
  case round =>
    obtain ⟨k, hk, rfl, hn⟩ := hrel
    by_cases hlt : k < p.keys.length
    · obtain ⟨ad, hA, hcell⟩ := Kd.at_string HW.out.r1 (k : Int) (by omega) (by omega)
      cases hA
      have hc1 : W.cell? (ad.add k) = some (.string (p.keys.getD k ByteArray.empty)) := by simpa [rdOf] using hcell
      clear hcell
      rcases rise_cases p.keys k with ⟨hx, g1⟩ | ⟨hx, g1, g2⟩ | ⟨hx, g1, g2, g3⟩ | ⟨g1, g2, g3, hx⟩
      · exact absurd (rise_prefix RB.out hlt) (by rw [hx]; simp)
      · exact absurd (rise_prefix RB.out hlt) (by rw [hx]; simp)
      · have b1 : decide (((p.keys.getD k ByteArray.empty).size : Int) < 1) = false := decide_eq_false (by omega)
        have b2 : decide ((p.keys.getD k ByteArray.empty).size < 1) = false := decide_eq_false (by omega)
        have b3 : decide (24 < ((p.keys.getD k ByteArray.empty).size : Int)) = false := decide_eq_false (by omega)
        have b4 : decide (24 < (p.keys.getD k ByteArray.empty).size) = false := decide_eq_false (by omega)
        have b5 : decide ((0 : Int) < (k : Int)) = false := decide_eq_false (by omega)
        have b6 : decide (0 < k) = false := decide_eq_false (by omega)
        have HX := Aside0.mk hx
        clear hx
        clear g1 g2 g3
        generalize p.keys.getD k ByteArray.empty = y at *
        go_wp2
        go_round
        case rel => exact ⟨k + 1, by omega, by go_num, ⟨fun j hj => by rcases Nat.lt_or_ge j k with h | h; exact hn.out j h; rw [show j = k by omega]; exact HX.out⟩⟩
        case measure => simp [intOf]; omega
      · have b1 : decide (((p.keys.getD k ByteArray.empty).size : Int) < 1) = false := decide_eq_false (by omega)
        have b2 : decide ((p.keys.getD k ByteArray.empty).size < 1) = false := decide_eq_false (by omega)
        have b3 : decide (24 < ((p.keys.getD k ByteArray.empty).size : Int)) = false := decide_eq_false (by omega)
        have b4 : decide (24 < (p.keys.getD k ByteArray.empty).size) = false := decide_eq_false (by omega)
        obtain ⟨ad2, hA2, hcell2⟩ := Kd.at_string HW.out.r1 ((k - 1 : Nat) : Int) (by omega) (by omega)
        cases hA2
        have hc2 : W.cell? (ad.add (k - 1)) = some (.string (p.keys.getD (k - 1) ByteArray.empty)) := by simpa [rdOf] using hcell2
        clear hcell2
        have b5 : decide ((0 : Int) < (k : Int)) = true := decide_eq_true (by omega)
        have b6 : decide (0 < k) = true := decide_eq_true g3
        rcases Bool.eq_false_or_eq_true (riseAt p.keys k) with hb | hb
        · have hl : Op.bytesLess (p.keys.getD (k - 1) ByteArray.empty).toList (p.keys.getD k ByteArray.empty).toList = true := by rw [← hx]; exact hb
          have HX := Aside0.mk hb
          clear hx hb g1 g2
          generalize p.keys.getD k ByteArray.empty = y at *
          generalize p.keys.getD (k - 1) ByteArray.empty = y2 at *
          go_wp2
          go_round
          case rel => exact ⟨k + 1, by omega, by go_num, ⟨fun j hj => by rcases Nat.lt_or_ge j k with h | h; exact hn.out j h; rw [show j = k by omega]; exact HX.out⟩⟩
          case measure => simp [intOf]; omega
        · exact absurd (rise_prefix RB.out hlt) (by rw [hb]; simp)
    · have b9 : decide ((k : Int) < (p.keys.length : Int)) = false := decide_eq_false (by omega)
      have b8 : decide (k < p.keys.length) = false := decide_eq_false (by omega)
      clear hlt hn
      rcases NW.out with ⟨n1, hN⟩ | ⟨n1, n2, hN⟩ | ⟨n1, n2, n3, hN⟩ | ⟨n1, n2, n3, n4, hN⟩ | ⟨n1, n2, n3, n4, hN⟩
      all_goals
        have HN := Aside0.mk hN
        clear NW hN
        go_wp2
        go_loop [67] (fun i => ∃ k : Nat, k ≤ p.vals.length ∧ i = .int .i64 k ∧ Aside0 (∀ j, j < k → (p.vals.getD j ByteArray.empty).size ≤ 48)) (fun i => p.vals.length - (intOf i).toNat)
        case atStart => exact ⟨0, Nat.zero_le _, rfl, ⟨fun j h => by omega⟩⟩
        case round =>
          obtain ⟨k2, hk2, rfl, hn⟩ := hrel
          by_cases hlt : k2 < p.vals.length
          · obtain ⟨ad, hA, hcell⟩ := Kd.at_string HW.out.r2 (k2 : Int) (by omega) (by omega)
            cases hA
            have hc1 : W.cell? (ad.add k2) = some (.string (p.vals.getD k2 ByteArray.empty)) := by simpa [rdOf] using hcell
            clear hcell
            have hmem := getD_mem p.vals k2 ByteArray.empty hlt
            by_cases hs : 48 < (p.vals.getD k2 ByteArray.empty).size
            · have b1 : decide (48 < ((p.vals.getD k2 ByteArray.empty).size : Int)) = true := decide_eq_true (by omega)
              have b2 : decide (48 < (p.vals.getD k2 ByteArray.empty).size) = true := decide_eq_true hs
              have hv : (p.vals.all fun v => decide (v.size ≤ 48)) = false := by rw [List.all_eq_false]; exact ⟨_, hmem, by simpa using hs⟩
              have HV := Aside0.mk hv
              clear hv hmem hs hn
              generalize p.vals.getD k2 ByteArray.empty = y at *
              go_wp2
              go_ret
              exact ⟨by first | rfl | (rw [HV.out, Bool.and_false, Bool.and_false]; rfl) | (simp [HV.out, HN.out]; done), HB.out⟩
            · have b1 : decide (48 < ((p.vals.getD k2 ByteArray.empty).size : Int)) = false := decide_eq_false (by omega)
              have b2 : decide (48 < (p.vals.getD k2 ByteArray.empty).size) = false := decide_eq_false hs
              have HX : Aside0 ((p.vals.getD k2 ByteArray.empty).size ≤ 48) := ⟨by omega⟩
              clear hs hmem
              generalize hyy : p.vals.getD k2 ByteArray.empty = y at *
              have HY := Aside0.mk hyy
              clear hyy
              go_wp2
              go_round
              case rel => exact ⟨k2 + 1, by omega, by go_num, ⟨fun j hj => by rcases Nat.lt_or_ge j k2 with h | h; exact hn.out j h; rw [show j = k2 by omega, HY.out]; exact HX.out⟩⟩
              case measure => simp [intOf]; omega
          · have hv : (p.vals.all fun v => decide (v.size ≤ 48)) = true := by
              rw [List.all_eq_true]
              intro v hv
              obtain ⟨j, hj, rfl⟩ := List.mem_iff_getElem.mp hv
              have := hn.out j (by omega)
              simpa [List.getD_eq_getElem?_getD, List.getElem?_eq_getElem hj] using this
            have HV := Aside0.mk hv
            clear hv hn
            go_wp2
            all_goals
              go_ret
              refine ⟨?_, HB.out⟩
              have hv1 := HV.out
              have hv2 := HV.out
              (try simp only [Bool.decide_and] at hv2)
              (try rw [hv1]); (try rw [hv2]); (try rw [HN.out])
              clear HV HN hv1 hv2 HB HW RB d0 d1 d2 d3 d4 d5 d6 d7
              first | (simp [*]; done) | (simp [*]; omega) | (simp_all; done) | (simp_all; omega) | (refine congrArg (fun b : Bool => Ending.returned (.bool b)) (Bool.eq_iff_iff.2 ?_); simp; omega) | (refine congrArg (fun b : Bool => Ending.returned (.bool b)) (Bool.eq_iff_iff.2 ?_); simp_all; done) | (refine congrArg (fun b : Bool => Ending.returned (.bool b)) (Bool.eq_iff_iff.2 ?_); simp_all; omega)

set_option maxHeartbeats 8000000 in
set_option maxRecDepth 100000 in
theorem lr_kind2 (p : PgV) (A1 : Option Addr) (c1 : Nat) (A2 : Option Addr) (c2 : Nat) (A3 : Option Addr) (c3 : Nat) (w : World) (hR : PgR w p A1 c1 A2 c2 A3 c3) (RB : Aside0 (riseB p.keys = true)) (k1 : (p.kind == 1) = false) (k2 : (p.kind == 2) = true) : Tells p A1 c1 A2 c2 A3 c3 w (rightP p) := by
  have BX := Aside0.mk (PBox.new p A1 c1 A2 c2 A3 c3 w)
  have HW := Aside0.mk (hR.below (below_alloc (Below.refl _ _) (.cells #[.int .i64 p.kind, .slice A1 p.keys.length c1, .slice A2 p.vals.length c2, .slice A3 p.kids.length c3, .int .i64 p.root, .int .i64 p.next, .int .i64 p.size, .int .i64 p.idle] 27)))
  have HB := Aside0.mk (below_alloc (Below.refl w.heap.size w) (.cells #[.int .i64 p.kind, .slice A1 p.keys.length c1, .slice A2 p.vals.length c2, .slice A3 p.kids.length c3, .int .i64 p.root, .int .i64 p.next, .int .i64 p.size, .int .i64 p.idle] 27))
  have m1 := hR.r1.2.1
  have m2 := hR.r2.2.1
  have m3 := hR.r3.2.1
  have E0 : rightP p = rightK p := by unfold rightP; rw [RB.out]; rfl
  rw [E0]
  clear E0
  have e : rightK p = (decide (2 ≤ p.kids.length ∧ p.kids.length ≤ 8 ∧ p.keys.length + 1 = p.kids.length ∧ p.vals.length = 0) && (noneB p && p.kids.all fun n => decide (0 ≤ n ∧ n < 65536))) := by unfold rightK; rw [if_neg (by simpa using k1), if_pos (by simpa using k2)]
  rw [e]
  clear e
  unfold Tells PgV.lay
  clear hR
  have NW := Aside0.mk (none_ways p)
  go_enter Try.func21, Try.ntmps21
  go_wp2
  generalize w.alloc (.cells #[.int .i64 p.kind, .slice A1 p.keys.length c1, .slice A2 p.vals.length c2, .slice A3 p.kids.length c3, .int .i64 p.root, .int .i64 p.next, .int .i64 p.size, .int .i64 p.idle] 27) = W at BX HW HB ⊢
  obtain ⟨_, d0, d1, d2, d3, d4, d5, d6, d7⟩ := BX.out
  clear BX
  go_loop [14] (fun i => ∃ k : Nat, k ≤ p.keys.length ∧ i = .int .i64 k ∧ Aside0 (∀ j, j < k → riseAt p.keys j = true)) (fun i => p.keys.length - (intOf i).toNat)
  case atStart => exact ⟨0, Nat.zero_le _, rfl, ⟨fun j h => by omega⟩⟩
  case round =>
    obtain ⟨k, hk, rfl, hn⟩ := hrel
    by_cases hlt : k < p.keys.length
    · obtain ⟨ad, hA, hcell⟩ := Kd.at_string HW.out.r1 (k : Int) (by omega) (by omega)
      cases hA
      have hc1 : W.cell? (ad.add k) = some (.string (p.keys.getD k ByteArray.empty)) := by simpa [rdOf] using hcell
      clear hcell
      rcases rise_cases p.keys k with ⟨hx, g1⟩ | ⟨hx, g1, g2⟩ | ⟨hx, g1, g2, g3⟩ | ⟨g1, g2, g3, hx⟩
      · exact absurd (rise_prefix RB.out hlt) (by rw [hx]; simp)
      · exact absurd (rise_prefix RB.out hlt) (by rw [hx]; simp)
      · have b1 : decide (((p.keys.getD k ByteArray.empty).size : Int) < 1) = false := decide_eq_false (by omega)
        have b2 : decide ((p.keys.getD k ByteArray.empty).size < 1) = false := decide_eq_false (by omega)
        have b3 : decide (24 < ((p.keys.getD k ByteArray.empty).size : Int)) = false := decide_eq_false (by omega)
        have b4 : decide (24 < (p.keys.getD k ByteArray.empty).size) = false := decide_eq_false (by omega)
        have b5 : decide ((0 : Int) < (k : Int)) = false := decide_eq_false (by omega)
        have b6 : decide (0 < k) = false := decide_eq_false (by omega)
        have HX := Aside0.mk hx
        clear hx
        clear g1 g2 g3
        generalize p.keys.getD k ByteArray.empty = y at *
        go_wp2
        go_round
        case rel => exact ⟨k + 1, by omega, by go_num, ⟨fun j hj => by rcases Nat.lt_or_ge j k with h | h; exact hn.out j h; rw [show j = k by omega]; exact HX.out⟩⟩
        case measure => simp [intOf]; omega
      · have b1 : decide (((p.keys.getD k ByteArray.empty).size : Int) < 1) = false := decide_eq_false (by omega)
        have b2 : decide ((p.keys.getD k ByteArray.empty).size < 1) = false := decide_eq_false (by omega)
        have b3 : decide (24 < ((p.keys.getD k ByteArray.empty).size : Int)) = false := decide_eq_false (by omega)
        have b4 : decide (24 < (p.keys.getD k ByteArray.empty).size) = false := decide_eq_false (by omega)
        obtain ⟨ad2, hA2, hcell2⟩ := Kd.at_string HW.out.r1 ((k - 1 : Nat) : Int) (by omega) (by omega)
        cases hA2
        have hc2 : W.cell? (ad.add (k - 1)) = some (.string (p.keys.getD (k - 1) ByteArray.empty)) := by simpa [rdOf] using hcell2
        clear hcell2
        have b5 : decide ((0 : Int) < (k : Int)) = true := decide_eq_true (by omega)
        have b6 : decide (0 < k) = true := decide_eq_true g3
        rcases Bool.eq_false_or_eq_true (riseAt p.keys k) with hb | hb
        · have hl : Op.bytesLess (p.keys.getD (k - 1) ByteArray.empty).toList (p.keys.getD k ByteArray.empty).toList = true := by rw [← hx]; exact hb
          have HX := Aside0.mk hb
          clear hx hb g1 g2
          generalize p.keys.getD k ByteArray.empty = y at *
          generalize p.keys.getD (k - 1) ByteArray.empty = y2 at *
          go_wp2
          go_round
          case rel => exact ⟨k + 1, by omega, by go_num, ⟨fun j hj => by rcases Nat.lt_or_ge j k with h | h; exact hn.out j h; rw [show j = k by omega]; exact HX.out⟩⟩
          case measure => simp [intOf]; omega
        · exact absurd (rise_prefix RB.out hlt) (by rw [hb]; simp)
    · have b9 : decide ((k : Int) < (p.keys.length : Int)) = false := decide_eq_false (by omega)
      have b8 : decide (k < p.keys.length) = false := decide_eq_false (by omega)
      clear hlt hn
      rcases NW.out with ⟨n1, hN⟩ | ⟨n1, n2, hN⟩ | ⟨n1, n2, n3, hN⟩ | ⟨n1, n2, n3, n4, hN⟩ | ⟨n1, n2, n3, n4, hN⟩
      all_goals
        have HN := Aside0.mk hN
        clear NW hN
        go_wp2
        go_loop [102] (fun i => ∃ k : Nat, k ≤ p.kids.length ∧ i = .int .i64 k ∧ Aside0 (∀ j, j < k → inB (p.kids.getD j 0) = true)) (fun i => p.kids.length - (intOf i).toNat)
        case atStart => exact ⟨0, Nat.zero_le _, rfl, ⟨fun j h => by omega⟩⟩
        case round =>
          obtain ⟨k2, hk2, rfl, hn⟩ := hrel
          by_cases hlt : k2 < p.kids.length
          · obtain ⟨ad, hA, hcell⟩ := Kd.at_int HW.out.r3 (k2 : Int) (by omega) (by omega)
            cases hA
            have hc1 : W.cell? (ad.add k2) = some (.int .i64 (p.kids.getD k2 0)) := by simpa [rd] using hcell
            clear hcell
            have hmem := getD_mem p.kids k2 0 hlt
            have hx := inl_ok (p.kids.getD k2 0)
            rcases Bool.eq_false_or_eq_true (inB (p.kids.getD k2 0)) with hs | hs
            · rw [hs] at hx
              have HC := Aside0.mk hx
              have HX := Aside0.mk hs
              clear hs hmem hx
              generalize hyy : p.kids.getD k2 0 = y at *
              have HY := Aside0.mk hyy
              clear hyy
              go_wp2_with (go_at_call 47; refine (HC.out _).mono ?_; rintro e w' ⟨rfl, rfl⟩)
              go_round
              case rel => exact ⟨k2 + 1, by omega, by go_num, ⟨fun j hj => by rcases Nat.lt_or_ge j k2 with h | h; exact hn.out j h; rw [show j = k2 by omega, HY.out]; exact HX.out⟩⟩
              case measure => simp [intOf]; omega
            · rw [hs] at hx
              have HC := Aside0.mk hx
              have hv : (p.kids.all fun n => decide (0 ≤ n ∧ n < 65536)) = false := by rw [List.all_eq_false]; exact ⟨_, hmem, by unfold inB at hs; rw [hs]; simp⟩
              have HV := Aside0.mk hv
              clear hv hmem hs hn hx
              generalize p.kids.getD k2 0 = y at *
              go_wp2_with (go_at_call 47; refine (HC.out _).mono ?_; rintro e w' ⟨rfl, rfl⟩)
              go_ret
              exact ⟨by first | rfl | (rw [HV.out, Bool.and_false, Bool.and_false]; rfl) | (simp [HV.out, HN.out]; done), HB.out⟩
          · have hv : (p.kids.all fun n => decide (0 ≤ n ∧ n < 65536)) = true := by
              rw [List.all_eq_true]
              intro v hv
              obtain ⟨j, hj, rfl⟩ := List.mem_iff_getElem.mp hv
              have := hn.out j (by omega)
              unfold inB at this
              simpa [List.getD_eq_getElem?_getD, List.getElem?_eq_getElem hj] using this
            have HV := Aside0.mk hv
            clear hv hn
            go_wp2
            all_goals
              go_ret
              refine ⟨?_, HB.out⟩
              have hv1 := HV.out
              have hv2 := HV.out
              (try simp only [Bool.decide_and] at hv2)
              (try rw [hv1]); (try rw [hv2]); (try rw [HN.out])
              clear HV HN hv1 hv2 HB HW RB d0 d1 d2 d3 d4 d5 d6 d7
              first | (simp [*]; done) | (simp [*]; omega) | (simp_all; done) | (simp_all; omega) | (refine congrArg (fun b : Bool => Ending.returned (.bool b)) (Bool.eq_iff_iff.2 ?_); simp; omega) | (refine congrArg (fun b : Bool => Ending.returned (.bool b)) (Bool.eq_iff_iff.2 ?_); simp_all; done) | (refine congrArg (fun b : Bool => Ending.returned (.bool b)) (Bool.eq_iff_iff.2 ?_); simp_all; omega)


end Go.Proofs.Ytopfaeefhicljaa.Q
