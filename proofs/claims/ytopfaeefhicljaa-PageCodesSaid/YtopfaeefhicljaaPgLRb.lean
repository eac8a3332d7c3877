/- The law's own 'right' of a page, walked (kinds 3, 4 and the others), and what it tells of any. Conditions: slices no longer than memory. -/
import Derived.Test.YtopfaeefhicljaaPgLRa
namespace Go.Proofs.Ytopfaeefhicljaa.Q
open Go Go.RowKit Go.Proofs.YtopfaeefhicljaaW.PrintWords Go.Proofs.Ytopfaeefhicljaa.Leb Go.Proofs.Ytopfaeefhicljaa.Str
set_option linter.unusedVariables false
set_option linter.unusedSimpArgs false

set_option maxHeartbeats 8000000 in
set_option maxRecDepth 100000 in
theorem lr_kind3 (p : PgV) (A1 : Option Addr) (c1 : Nat) (A2 : Option Addr) (c2 : Nat) (A3 : Option Addr) (c3 : Nat) (w : World) (hR : PgR w p A1 c1 A2 c2 A3 c3) (RB : Aside0 (riseB p.keys = true)) (k1 : (p.kind == 1) = false) (k2 : (p.kind == 2) = false) (k3 : (p.kind == 3) = true) : Tells p A1 c1 A2 c2 A3 c3 w (rightP p) := by
  have BX := Aside0.mk (PBox.new p A1 c1 A2 c2 A3 c3 w)
  have HW := Aside0.mk (hR.below (below_alloc (Below.refl _ _) (.cells #[.int .i64 p.kind, .slice A1 p.keys.length c1, .slice A2 p.vals.length c2, .slice A3 p.kids.length c3, .int .i64 p.root, .int .i64 p.next, .int .i64 p.size, .int .i64 p.idle] 27)))
  have HB := Aside0.mk (below_alloc (Below.refl w.heap.size w) (.cells #[.int .i64 p.kind, .slice A1 p.keys.length c1, .slice A2 p.vals.length c2, .slice A3 p.kids.length c3, .int .i64 p.root, .int .i64 p.next, .int .i64 p.size, .int .i64 p.idle] 27))
  have m1 := hR.r1.2.1
  have m2 := hR.r2.2.1
  have m3 := hR.r3.2.1
  have E0 : rightP p = rightK p := by unfold rightP; rw [RB.out]; rfl
  rw [E0]
  clear E0
  have e : rightK p = (decide (p.keys.length = 0 ∧ p.vals.length = 0 ∧ p.kids.length = 0 ∧ 0 ≤ p.root ∧ p.root < 65536 ∧ 0 ≤ p.next ∧ p.next < 65536 ∧ 0 ≤ p.size ∧ p.size ≤ 65536 ∧ 0 ≤ p.idle ∧ p.idle ≤ p.size)) := by unfold rightK; rw [if_neg (by simpa using k1), if_neg (by simpa using k2), if_pos (by simpa using k3)]
  rw [e]
  clear e
  unfold Tells PgV.lay
  clear hR
  have NW := Aside0.mk (none_ways p)
  go_enter Try.func21, Try.ntmps21
  go_wp2
  generalize w.alloc (.cells #[.int .i64 p.kind, .slice A1 p.keys.length c1, .slice A2 p.vals.length c2, .slice A3 p.kids.length c3, .int .i64 p.root, .int .i64 p.next, .int .i64 p.size, .int .i64 p.idle] 27) = W at BX HW HB ⊢
  obtain ⟨_, d0, d1, d2, d3, d4, d5, d6, d7⟩ := BX.out
  clear BX
  go_loop [14] (fun i => ∃ k : Nat, k ≤ p.keys.length ∧ i = .int .i64 k ∧ Aside0 (∀ j, j < k → riseAt p.keys j = true)) (fun i => p.keys.length - (intOf i).toNat)
  case atStart => exact ⟨0, Nat.zero_le _, rfl, ⟨fun j h => by omega⟩⟩
  case round =>
    obtain ⟨k, hk, rfl, hn⟩ := hrel
    by_cases hlt : k < p.keys.length
    · obtain ⟨ad, hA, hcell⟩ := Kd.at_string HW.out.r1 (k : Int) (by omega) (by omega)
      cases hA
      have hc1 : W.cell? (ad.add k) = some (.string (p.keys.getD k ByteArray.empty)) := by simpa [rdOf] using hcell
      clear hcell
      rcases rise_cases p.keys k with ⟨hx, g1⟩ | ⟨hx, g1, g2⟩ | ⟨hx, g1, g2, g3⟩ | ⟨g1, g2, g3, hx⟩
      · exact absurd (rise_prefix RB.out hlt) (by rw [hx]; simp)
      · exact absurd (rise_prefix RB.out hlt) (by rw [hx]; simp)
      · have b1 : decide (((p.keys.getD k ByteArray.empty).size : Int) < 1) = false := decide_eq_false (by omega)
        have b2 : decide ((p.keys.getD k ByteArray.empty).size < 1) = false := decide_eq_false (by omega)
        have b3 : decide (24 < ((p.keys.getD k ByteArray.empty).size : Int)) = false := decide_eq_false (by omega)
        have b4 : decide (24 < (p.keys.getD k ByteArray.empty).size) = false := decide_eq_false (by omega)
        have b5 : decide ((0 : Int) < (k : Int)) = false := decide_eq_false (by omega)
        have b6 : decide (0 < k) = false := decide_eq_false (by omega)
        have HX := Aside0.mk hx
        clear hx
        clear g1 g2 g3
        generalize p.keys.getD k ByteArray.empty = y at *
        go_wp2
        go_round
        case rel => exact ⟨k + 1, by omega, by go_num, ⟨fun j hj => by rcases Nat.lt_or_ge j k with h | h; exact hn.out j h; rw [show j = k by omega]; exact HX.out⟩⟩
        case measure => simp [intOf]; omega
      · have b1 : decide (((p.keys.getD k ByteArray.empty).size : Int) < 1) = false := decide_eq_false (by omega)
        have b2 : decide ((p.keys.getD k ByteArray.empty).size < 1) = false := decide_eq_false (by omega)
        have b3 : decide (24 < ((p.keys.getD k ByteArray.empty).size : Int)) = false := decide_eq_false (by omega)
        have b4 : decide (24 < (p.keys.getD k ByteArray.empty).size) = false := decide_eq_false (by omega)
        obtain ⟨ad2, hA2, hcell2⟩ := Kd.at_string HW.out.r1 ((k - 1 : Nat) : Int) (by omega) (by omega)
        cases hA2
        have hc2 : W.cell? (ad.add (k - 1)) = some (.string (p.keys.getD (k - 1) ByteArray.empty)) := by simpa [rdOf] using hcell2
        clear hcell2
        have b5 : decide ((0 : Int) < (k : Int)) = true := decide_eq_true (by omega)
        have b6 : decide (0 < k) = true := decide_eq_true g3
        rcases Bool.eq_false_or_eq_true (riseAt p.keys k) with hb | hb
        · have hl : Op.bytesLess (p.keys.getD (k - 1) ByteArray.empty).toList (p.keys.getD k ByteArray.empty).toList = true := by rw [← hx]; exact hb
          have HX := Aside0.mk hb
          clear hx hb g1 g2
          generalize p.keys.getD k ByteArray.empty = y at *
          generalize p.keys.getD (k - 1) ByteArray.empty = y2 at *
          go_wp2
          go_round
          case rel => exact ⟨k + 1, by omega, by go_num, ⟨fun j hj => by rcases Nat.lt_or_ge j k with h | h; exact hn.out j h; rw [show j = k by omega]; exact HX.out⟩⟩
          case measure => simp [intOf]; omega
        · exact absurd (rise_prefix RB.out hlt) (by rw [hb]; simp)
    · have b9 : decide ((k : Int) < (p.keys.length : Int)) = false := decide_eq_false (by omega)
      have b8 : decide (k < p.keys.length) = false := decide_eq_false (by omega)
      clear hlt hn
      rcases NW.out with ⟨n1, hN⟩ | ⟨n1, n2, hN⟩ | ⟨n1, n2, n3, hN⟩ | ⟨n1, n2, n3, n4, hN⟩ | ⟨n1, n2, n3, n4, hN⟩
      all_goals
        clear NW hN
        go_wp2_with (go_at_call 47; refine (inl_ok _ _).mono ?_; rintro e w' ⟨rfl, rfl⟩)
        all_goals
          go_ret
          refine ⟨?_, HB.out⟩
          clear HB HW RB d0 d1 d2 d3 d4 d5 d6 d7
          simp only [inB] at *
          first | (simp [*]; done) | (simp [*]; omega) | (simp_all; done) | (simp_all; omega) | (refine congrArg (fun b : Bool => Ending.returned (.bool b)) (Bool.eq_iff_iff.2 ?_); simp; omega) | (refine congrArg (fun b : Bool => Ending.returned (.bool b)) (Bool.eq_iff_iff.2 ?_); simp_all; done) | (refine congrArg (fun b : Bool => Ending.returned (.bool b)) (Bool.eq_iff_iff.2 ?_); simp_all; omega)

set_option maxHeartbeats 8000000 in
set_option maxRecDepth 100000 in
theorem lr_kind4 (p : PgV) (A1 : Option Addr) (c1 : Nat) (A2 : Option Addr) (c2 : Nat) (A3 : Option Addr) (c3 : Nat) (w : World) (hR : PgR w p A1 c1 A2 c2 A3 c3) (RB : Aside0 (riseB p.keys = true)) (k1 : (p.kind == 1) = false) (k2 : (p.kind == 2) = false) (k3 : (p.kind == 3) = false) (k4 : (p.kind == 4) = true) : Tells p A1 c1 A2 c2 A3 c3 w (rightP p) := by
  have BX := Aside0.mk (PBox.new p A1 c1 A2 c2 A3 c3 w)
  have HW := Aside0.mk (hR.below (below_alloc (Below.refl _ _) (.cells #[.int .i64 p.kind, .slice A1 p.keys.length c1, .slice A2 p.vals.length c2, .slice A3 p.kids.length c3, .int .i64 p.root, .int .i64 p.next, .int .i64 p.size, .int .i64 p.idle] 27)))
  have HB := Aside0.mk (below_alloc (Below.refl w.heap.size w) (.cells #[.int .i64 p.kind, .slice A1 p.keys.length c1, .slice A2 p.vals.length c2, .slice A3 p.kids.length c3, .int .i64 p.root, .int .i64 p.next, .int .i64 p.size, .int .i64 p.idle] 27))
  have m1 := hR.r1.2.1
  have m2 := hR.r2.2.1
  have m3 := hR.r3.2.1
  have E0 : rightP p = rightK p := by unfold rightP; rw [RB.out]; rfl
  rw [E0]
  clear E0
  have e : rightK p = (decide (p.keys.length = 0 ∧ p.vals.length = 0 ∧ p.kids.length = 0 ∧ p.root = 0 ∧ 0 ≤ p.next ∧ p.next < 65536 ∧ p.size = 0 ∧ p.idle = 0)) := by unfold rightK; rw [if_neg (by simpa using k1), if_neg (by simpa using k2), if_neg (by simpa using k3), if_pos (by simpa using k4)]
  rw [e]
  clear e
  unfold Tells PgV.lay
  clear hR
  have NW := Aside0.mk (none_ways p)
  go_enter Try.func21, Try.ntmps21
  go_wp2
  generalize w.alloc (.cells #[.int .i64 p.kind, .slice A1 p.keys.length c1, .slice A2 p.vals.length c2, .slice A3 p.kids.length c3, .int .i64 p.root, .int .i64 p.next, .int .i64 p.size, .int .i64 p.idle] 27) = W at BX HW HB ⊢
  obtain ⟨_, d0, d1, d2, d3, d4, d5, d6, d7⟩ := BX.out
  clear BX
  go_loop [14] (fun i => ∃ k : Nat, k ≤ p.keys.length ∧ i = .int .i64 k ∧ Aside0 (∀ j, j < k → riseAt p.keys j = true)) (fun i => p.keys.length - (intOf i).toNat)
  case atStart => exact ⟨0, Nat.zero_le _, rfl, ⟨fun j h => by omega⟩⟩
  case round =>
    obtain ⟨k, hk, rfl, hn⟩ := hrel
    by_cases hlt : k < p.keys.length
    · obtain ⟨ad, hA, hcell⟩ := Kd.at_string HW.out.r1 (k : Int) (by omega) (by omega)
      cases hA
      have hc1 : W.cell? (ad.add k) = some (.string (p.keys.getD k ByteArray.empty)) := by simpa [rdOf] using hcell
      clear hcell
      rcases rise_cases p.keys k with ⟨hx, g1⟩ | ⟨hx, g1, g2⟩ | ⟨hx, g1, g2, g3⟩ | ⟨g1, g2, g3, hx⟩
      · exact absurd (rise_prefix RB.out hlt) (by rw [hx]; simp)
      · exact absurd (rise_prefix RB.out hlt) (by rw [hx]; simp)
      · have b1 : decide (((p.keys.getD k ByteArray.empty).size : Int) < 1) = false := decide_eq_false (by omega)
        have b2 : decide ((p.keys.getD k ByteArray.empty).size < 1) = false := decide_eq_false (by omega)
        have b3 : decide (24 < ((p.keys.getD k ByteArray.empty).size : Int)) = false := decide_eq_false (by omega)
        have b4 : decide (24 < (p.keys.getD k ByteArray.empty).size) = false := decide_eq_false (by omega)
        have b5 : decide ((0 : Int) < (k : Int)) = false := decide_eq_false (by omega)
        have b6 : decide (0 < k) = false := decide_eq_false (by omega)
        have HX := Aside0.mk hx
        clear hx
        clear g1 g2 g3
        generalize p.keys.getD k ByteArray.empty = y at *
        go_wp2
        go_round
        case rel => exact ⟨k + 1, by omega, by go_num, ⟨fun j hj => by rcases Nat.lt_or_ge j k with h | h; exact hn.out j h; rw [show j = k by omega]; exact HX.out⟩⟩
        case measure => simp [intOf]; omega
      · have b1 : decide (((p.keys.getD k ByteArray.empty).size : Int) < 1) = false := decide_eq_false (by omega)
        have b2 : decide ((p.keys.getD k ByteArray.empty).size < 1) = false := decide_eq_false (by omega)
        have b3 : decide (24 < ((p.keys.getD k ByteArray.empty).size : Int)) = false := decide_eq_false (by omega)
        have b4 : decide (24 < (p.keys.getD k ByteArray.empty).size) = false := decide_eq_false (by omega)
        obtain ⟨ad2, hA2, hcell2⟩ := Kd.at_string HW.out.r1 ((k - 1 : Nat) : Int) (by omega) (by omega)
        cases hA2
        have hc2 : W.cell? (ad.add (k - 1)) = some (.string (p.keys.getD (k - 1) ByteArray.empty)) := by simpa [rdOf] using hcell2
        clear hcell2
        have b5 : decide ((0 : Int) < (k : Int)) = true := decide_eq_true (by omega)
        have b6 : decide (0 < k) = true := decide_eq_true g3
        rcases Bool.eq_false_or_eq_true (riseAt p.keys k) with hb | hb
        · have hl : Op.bytesLess (p.keys.getD (k - 1) ByteArray.empty).toList (p.keys.getD k ByteArray.empty).toList = true := by rw [← hx]; exact hb
          have HX := Aside0.mk hb
          clear hx hb g1 g2
          generalize p.keys.getD k ByteArray.empty = y at *
          generalize p.keys.getD (k - 1) ByteArray.empty = y2 at *
          go_wp2
          go_round
          case rel => exact ⟨k + 1, by omega, by go_num, ⟨fun j hj => by rcases Nat.lt_or_ge j k with h | h; exact hn.out j h; rw [show j = k by omega]; exact HX.out⟩⟩
          case measure => simp [intOf]; omega
        · exact absurd (rise_prefix RB.out hlt) (by rw [hb]; simp)
    · have b9 : decide ((k : Int) < (p.keys.length : Int)) = false := decide_eq_false (by omega)
      have b8 : decide (k < p.keys.length) = false := decide_eq_false (by omega)
      clear hlt hn
      rcases NW.out with ⟨n1, hN⟩ | ⟨n1, n2, hN⟩ | ⟨n1, n2, n3, hN⟩ | ⟨n1, n2, n3, n4, hN⟩ | ⟨n1, n2, n3, n4, hN⟩
      all_goals
        clear NW hN
        go_wp2_with (go_at_call 47; refine (inl_ok _ _).mono ?_; rintro e w' ⟨rfl, rfl⟩)
        all_goals
          go_ret
          refine ⟨?_, HB.out⟩
          clear HB HW RB d0 d1 d2 d3 d4 d5 d6 d7
          simp only [inB] at *
          first | (simp [*]; done) | (simp [*]; omega) | (simp_all; done) | (simp_all; omega) | (refine congrArg (fun b : Bool => Ending.returned (.bool b)) (Bool.eq_iff_iff.2 ?_); simp; omega) | (refine congrArg (fun b : Bool => Ending.returned (.bool b)) (Bool.eq_iff_iff.2 ?_); simp_all; done) | (refine congrArg (fun b : Bool => Ending.returned (.bool b)) (Bool.eq_iff_iff.2 ?_); simp_all; omega)

set_option maxHeartbeats 8000000 in
set_option maxRecDepth 100000 in
theorem lr_kindo (p : PgV) (A1 : Option Addr) (c1 : Nat) (A2 : Option Addr) (c2 : Nat) (A3 : Option Addr) (c3 : Nat) (w : World) (hR : PgR w p A1 c1 A2 c2 A3 c3) (RB : Aside0 (riseB p.keys = true)) (k1 : (p.kind == 1) = false) (k2 : (p.kind == 2) = false) (k3 : (p.kind == 3) = false) (k4 : (p.kind == 4) = false) : Tells p A1 c1 A2 c2 A3 c3 w (rightP p) := by
  have BX := Aside0.mk (PBox.new p A1 c1 A2 c2 A3 c3 w)
  have HW := Aside0.mk (hR.below (below_alloc (Below.refl _ _) (.cells #[.int .i64 p.kind, .slice A1 p.keys.length c1, .slice A2 p.vals.length c2, .slice A3 p.kids.length c3, .int .i64 p.root, .int .i64 p.next, .int .i64 p.size, .int .i64 p.idle] 27)))
  have HB := Aside0.mk (below_alloc (Below.refl w.heap.size w) (.cells #[.int .i64 p.kind, .slice A1 p.keys.length c1, .slice A2 p.vals.length c2, .slice A3 p.kids.length c3, .int .i64 p.root, .int .i64 p.next, .int .i64 p.size, .int .i64 p.idle] 27))
  have m1 := hR.r1.2.1
  have m2 := hR.r2.2.1
  have m3 := hR.r3.2.1
  have E0 : rightP p = rightK p := by unfold rightP; rw [RB.out]; rfl
  rw [E0]
  clear E0
  have e : rightK p = false := by unfold rightK; rw [if_neg (by simpa using k1), if_neg (by simpa using k2), if_neg (by simpa using k3), if_neg (by simpa using k4)]
  rw [e]
  clear e
  unfold Tells PgV.lay
  clear hR
  have NW := Aside0.mk (none_ways p)
  go_enter Try.func21, Try.ntmps21
  go_wp2
  generalize w.alloc (.cells #[.int .i64 p.kind, .slice A1 p.keys.length c1, .slice A2 p.vals.length c2, .slice A3 p.kids.length c3, .int .i64 p.root, .int .i64 p.next, .int .i64 p.size, .int .i64 p.idle] 27) = W at BX HW HB ⊢
  obtain ⟨_, d0, d1, d2, d3, d4, d5, d6, d7⟩ := BX.out
  clear BX
  go_loop [14] (fun i => ∃ k : Nat, k ≤ p.keys.length ∧ i = .int .i64 k ∧ Aside0 (∀ j, j < k → riseAt p.keys j = true)) (fun i => p.keys.length - (intOf i).toNat)
  case atStart => exact ⟨0, Nat.zero_le _, rfl, ⟨fun j h => by omega⟩⟩
  case round =>
    obtain ⟨k, hk, rfl, hn⟩ := hrel
    by_cases hlt : k < p.keys.length
    · obtain ⟨ad, hA, hcell⟩ := Kd.at_string HW.out.r1 (k : Int) (by omega) (by omega)
      cases hA
      have hc1 : W.cell? (ad.add k) = some (.string (p.keys.getD k ByteArray.empty)) := by simpa [rdOf] using hcell
      clear hcell
      rcases rise_cases p.keys k with ⟨hx, g1⟩ | ⟨hx, g1, g2⟩ | ⟨hx, g1, g2, g3⟩ | ⟨g1, g2, g3, hx⟩
      · exact absurd (rise_prefix RB.out hlt) (by rw [hx]; simp)
      · exact absurd (rise_prefix RB.out hlt) (by rw [hx]; simp)
      · have b1 : decide (((p.keys.getD k ByteArray.empty).size : Int) < 1) = false := decide_eq_false (by omega)
        have b2 : decide ((p.keys.getD k ByteArray.empty).size < 1) = false := decide_eq_false (by omega)
        have b3 : decide (24 < ((p.keys.getD k ByteArray.empty).size : Int)) = false := decide_eq_false (by omega)
        have b4 : decide (24 < (p.keys.getD k ByteArray.empty).size) = false := decide_eq_false (by omega)
        have b5 : decide ((0 : Int) < (k : Int)) = false := decide_eq_false (by omega)
        have b6 : decide (0 < k) = false := decide_eq_false (by omega)
        have HX := Aside0.mk hx
        clear hx
        clear g1 g2 g3
        generalize p.keys.getD k ByteArray.empty = y at *
        go_wp2
        go_round
        case rel => exact ⟨k + 1, by omega, by go_num, ⟨fun j hj => by rcases Nat.lt_or_ge j k with h | h; exact hn.out j h; rw [show j = k by omega]; exact HX.out⟩⟩
        case measure => simp [intOf]; omega
      · have b1 : decide (((p.keys.getD k ByteArray.empty).size : Int) < 1) = false := decide_eq_false (by omega)
        have b2 : decide ((p.keys.getD k ByteArray.empty).size < 1) = false := decide_eq_false (by omega)
        have b3 : decide (24 < ((p.keys.getD k ByteArray.empty).size : Int)) = false := decide_eq_false (by omega)
        have b4 : decide (24 < (p.keys.getD k ByteArray.empty).size) = false := decide_eq_false (by omega)
        obtain ⟨ad2, hA2, hcell2⟩ := Kd.at_string HW.out.r1 ((k - 1 : Nat) : Int) (by omega) (by omega)
        cases hA2
        have hc2 : W.cell? (ad.add (k - 1)) = some (.string (p.keys.getD (k - 1) ByteArray.empty)) := by simpa [rdOf] using hcell2
        clear hcell2
        have b5 : decide ((0 : Int) < (k : Int)) = true := decide_eq_true (by omega)
        have b6 : decide (0 < k) = true := decide_eq_true g3
        rcases Bool.eq_false_or_eq_true (riseAt p.keys k) with hb | hb
        · have hl : Op.bytesLess (p.keys.getD (k - 1) ByteArray.empty).toList (p.keys.getD k ByteArray.empty).toList = true := by rw [← hx]; exact hb
          have HX := Aside0.mk hb
          clear hx hb g1 g2
          generalize p.keys.getD k ByteArray.empty = y at *
          generalize p.keys.getD (k - 1) ByteArray.empty = y2 at *
          go_wp2
          go_round
          case rel => exact ⟨k + 1, by omega, by go_num, ⟨fun j hj => by rcases Nat.lt_or_ge j k with h | h; exact hn.out j h; rw [show j = k by omega]; exact HX.out⟩⟩
          case measure => simp [intOf]; omega
        · exact absurd (rise_prefix RB.out hlt) (by rw [hb]; simp)
    · have b9 : decide ((k : Int) < (p.keys.length : Int)) = false := decide_eq_false (by omega)
      have b8 : decide (k < p.keys.length) = false := decide_eq_false (by omega)
      clear hlt hn
      rcases NW.out with ⟨n1, hN⟩ | ⟨n1, n2, hN⟩ | ⟨n1, n2, n3, hN⟩ | ⟨n1, n2, n3, n4, hN⟩ | ⟨n1, n2, n3, n4, hN⟩
      all_goals
        clear NW hN
        go_wp2
        go_ret
        exact ⟨rfl, HB.out⟩

theorem lright_ok (p : PgV) (A1 : Option Addr) (c1 : Nat) (A2 : Option Addr) (c2 : Nat) (A3 : Option Addr) (c3 : Nat) (w : World) (hR : PgR w p A1 c1 A2 c2 A3 c3) : Tells p A1 c1 A2 c2 A3 c3 w (rightP p) := by
  rcases Bool.eq_false_or_eq_true (riseB p.keys) with hr | hr
  · by_cases k1 : p.kind = 1
    · exact lr_kind1 p A1 c1 A2 c2 A3 c3 w hR ⟨hr⟩ (by simpa using k1)
    · by_cases k2 : p.kind = 2
      · exact lr_kind2 p A1 c1 A2 c2 A3 c3 w hR ⟨hr⟩ (by simpa using k1) (by simpa using k2)
      · by_cases k3 : p.kind = 3
        · exact lr_kind3 p A1 c1 A2 c2 A3 c3 w hR ⟨hr⟩ (by simpa using k1) (by simpa using k2) (by simpa using k3)
        · by_cases k4 : p.kind = 4
          · exact lr_kind4 p A1 c1 A2 c2 A3 c3 w hR ⟨hr⟩ (by simpa using k1) (by simpa using k2) (by simpa using k3) (by simpa using k4)
          · exact lr_kindo p A1 c1 A2 c2 A3 c3 w hR ⟨hr⟩ (by simpa using k1) (by simpa using k2) (by simpa using k3) (by simpa using k4)
  · exact lr_rise p A1 c1 A2 c2 A3 c3 w hR ⟨hr⟩

end Go.Proofs.Ytopfaeefhicljaa.Q
