/- Proved: MsgCodes answers true: any message as bytes, byte by byte, and back. No conditions beyond the given statement's. -/
import Derived.Test.YtolcmjoapnldiaaMsgByt
import Derived.Test.YtolcmjoapnldiaaMsgLawT
import Derived.Test.YtolcmjoapnldiaaMsgLawFA
import Derived.Test.YtolcmjoapnldiaaMsgLawFC
import Derived.Test.YtolcmjoapnldiaaMsgLawFE
import Derived.Test.YtolcmjoapnldiaaMsgLawFF
import Derived.Deep.QuietTactic
import Derived.BigQuiet
import Derived.Deep.RegionHeld3
import Derived.Deep.RegionWith
import Derived.RegionTactic
import Derived.Tactics2
namespace Go.Proofs.Ytolcmjoapnldiaa.MsgCodes
open Go Go.RowKit Go.Proofs.Ytolcmjoapnldiaa.Q Go.Proofs.YtolcmjoapnldiaaW.PrintWords Go.Proofs.YtolcmjoapnldiaaW.PrintLast Go.Proofs.Ytolcmjoapnldiaa.Leb Go.Proofs.Ytolcmjoapnldiaa.Str Go.Proofs.Ytolcmjoapnldiaa.Msg
set_option linter.unusedVariables false
set_option linter.unusedSimpArgs false
attribute [local go_sem high] eqA47

def codes6t.T6 : Bool × List (List Nat × List Nat) := (true, [([], []), ([0], [0]), ([], []), ([2, 1], [2]), ([1, 3], [1, 3])])
def codes6t.B6 : List Nat := [0, 1, 0, 7, 15]
theorem codes6t.tab6 : rtab .any (opsOf Try.f12 6) = codes6t.T6 := by kernel_rfl
theorem codes6t.bits6 : waitsOk codes6t.T6.2 codes6t.B6 = true := by kernel_rfl
def codes11.T11 : Bool × List (List Nat × List Nat) := (true, [([], []), ([0], [0]), ([1], [1]), ([2], [2]), ([3, 2], [2, 3]), ([2], [2]), ([5, 2, 2], [2, 5]), ([6, 2], [2, 6]), ([4, 7, 2], [2, 4, 7]), ([2, 8], [2, 8]), ([9, 6], [9]), ([10], [10]), ([11, 10], [10, 11]), ([10, 12], [10, 12]), ([13, 10], [13]), ([14], [14]), ([14], [14]), ([15, 16, 14], [14, 15, 16]), ([14, 17], [14, 17]), ([18, 14, 0, 1, 2, 3, 4, 5, 6, 7, 8, 9, 10, 11, 12, 13, 14, 15, 16, 17, 18], [18])])
def codes11.B11 : List Nat := [0, 1, 3, 7, 15, 7, 39, 103, 255, 511, 1023, 2047, 4095, 8191, 16383, 32767, 32767, 131071, 262143, 524287]
theorem codes11.tab11 : rtab .any (opsOf Try.f12 11) = codes11.T11 := by kernel_rfl
theorem codes11.bits11 : waitsOk codes11.T11.2 codes11.B11 = true := by kernel_rfl
def codes6f.T6 : Bool × List (List Nat × List Nat) := (true, [([], []), ([0], [0]), ([], []), ([2, 1], [2]), ([1, 3], [1, 3])])
def codes6f.B6 : List Nat := [0, 1, 0, 7, 15]
theorem codes6f.tab6 : rtab .any (opsOf Try.f12 6) = codes6f.T6 := by kernel_rfl
theorem codes6f.bits6 : waitsOk codes6f.T6.2 codes6f.B6 = true := by kernel_rfl
set_option maxHeartbeats 8000000 in
set_option maxRecDepth 100000 in
theorem good (m : MsgV) (l : List Int) (w : World) (hk : m.key.size ≤ 100) (hv : m.val.size ≤ 100)
    (RG : Aside0 (∀ w, Calls Try.prog 31 #[m.lay] w fun e w' => e = .returned (.bool true) ∧ Below w.heap.size w w'))
    (RT : Aside0 (∀ w, Calls Try.prog 32 #[m.lay] w fun e w' => e = .returned (.bool true) ∧ Below w.heap.size w w'))
    (EN : Aside0 (∀ w, Calls Try.prog 28 #[m.lay] w fun e w' => ∃ A c, e = .returned (.tuple #[.slice A l.length c, .int .i64 0]) ∧ Cs w' A c l ∧ Below w.heap.size w w'))
    (BS : Aside0 (∀ w, Calls Try.prog 34 #[m.lay] w fun e w' => ∃ A c, e = .returned (.slice A l.length c) ∧ Cs w' A c l ∧ Below w.heap.size w w'))
    (DX : Aside0 (∀ (A : Option Addr) (c : Nat) (w : World), Cs w A c l → Calls Try.prog 33 #[.slice A l.length c] w fun e w' => e = .returned (.tuple #[m.lay, .int .i64 0]) ∧ Below w.heap.size w w')) :
    Calls Try.prog 12 #[m.lay] w fun e w' => e = .returned (.bool true) ∧ Below w.heap.size w w' := by
  have t1 : decide ((100 : Int) < (m.key.size : Int)) = false := decide_eq_false (by omega)
  have t2 : decide (100 < m.key.size) = false := decide_eq_false (by omega)
  have t3 : decide ((100 : Int) < (m.val.size : Int)) = false := decide_eq_false (by omega)
  have t4 : decide (100 < m.val.size) = false := decide_eq_false (by omega)
  simp only [MsgV.lay] at DX
  have BX0 := Aside0.mk (MBox.new m w)
  go_enter Try.func12, Try.ntmps12
  go_wp2_with (go_at_call 27; refine (head_ok _).mono ?_; rintro e w1 ⟨rfl, hb1⟩; have HB1 := Aside0.mk (below_step (below_alloc (Below.refl _ _) _) hb1); have BX1 := Aside0.mk (BX0.out.below hb1); obtain ⟨_, d0, d1, d2, d3, d4, d5, d6, d7, d8, d9, d10, d11⟩ := BX1.out; clear hb1 BX0)
  refine (EN.out _).mono ?_
  rintro e w2 ⟨A, c, rfl, hp, hb2⟩
  have HB := Aside0.mk (below_step HB1.out hb2)
  have BX := Aside0.mk (BX1.out.below hb2)
  have P0 := Aside0.mk hp
  clear hb2 hp d0 d1 d2 d3 d4 d5 d6 d7 d8 d9 d10 d11 HB1 BX1
  go_upto_region 6 with fail
  refine start_ (n := 5) (S := fun w' => True) (ds := []) #[false, false, false, false, false] (by kernel_rfl) rfl rfl trivial (fun hHeld => ?_)
  refine with_tabW codes6t.tab6 codes6t.bits6 (fun HT_ HW_ => ?_)
  have n0 := Aside0.mk (below_drew HB.out)
  have n1 := Aside0.mk (BX.out.below (below_drew (Below.refl _ _)))
  have n2 := Aside0.mk (P0.out.step (below_drew (Below.refl _ _)))
  clear HB BX P0
  generalize w2.drew = wd at n0 n1 n2 hHeld ⊢
  have HB := n0
  have BX := n1
  have P0 := n2
  clear n0 n1 n2 hHeld
  refine inv_at [0, 1, 2, 3, 4] (fun a0_ b a w' => a = putSel a0_ b [(0, 24, .agg #[.int .i64 m.kind, .int .i64 m.src, .int .i64 m.dst, .int .u64 m.tnum, .int .i64 m.node, .int .u64 m.life, .int .i64 m.num, .int .i64 m.op, .string m.key, .string m.val, .bool m.has, .int .i64 m.code]), (1, 25, .bool true), (2, 26, .agg #[.int .i64 m.kind, .int .i64 m.src, .int .i64 m.dst, .int .u64 m.tnum, .int .i64 m.node, .int .u64 m.life, .int .i64 m.num, .int .i64 m.op, .string m.key, .string m.val, .bool m.has, .int .i64 m.code]), (3, 27, .bool true), (4, 28, .bool false)] ∧ (Below w.heap.size w w') ∧ (MBox m w.heap.size w') ∧ (Cs w' A c l)) HT_.out HW_.out (by kernel_rfl) (by kernel_rfl) ?_ ?_ ?_
  · exact ⟨by simp only [putSel, Bool.false_eq_true, if_false], HB.out, BX.out, P0.out⟩
  · skip
    clear BX HB P0
    refine steps_cons ?_ ?_
    · rintro b a w' ⟨ha, Q_HB, Q_BX, Q_P0⟩ hb_ hon hoff
      refine ⟨_, rfl, fun K hK => ?_⟩
      have e1 : a.tmps[1]? = some (.pointer (some ⟨w.heap.size, 0, none⟩)) := by rw [ha]; exact (putSel_off rfl).trans rfl
      replace ha := Aside0.mk ha
      have HB := Aside0.mk Q_HB
      have BX := Aside0.mk Q_BX
      have P0 := Aside0.mk Q_P0
      obtain ⟨_, d0, d1, d2, d3, d4, d5, d6, d7, d8, d9, d10, d11⟩ := BX.out
      refine value_ (w1 := w') (v := .agg #[.int .i64 m.kind, .int .i64 m.src, .int .i64 m.dst, .int .u64 m.tnum, .int .i64 m.node, .int .u64 m.life, .int .i64 m.num, .int .i64 m.op, .string m.key, .string m.val, .bool m.has, .int .i64 m.code]) (by rfl) rfl ?_ ?_
      · go_simp
        (try simp only [i64_w])
        try rfl
      refine hK.out _ _ ⟨(by rw [ha.out]; exact putSel_upk 0 hb_ rfl rfl rfl), Q_HB, Q_BX, Q_P0⟩
    refine steps_cons ?_ ?_
    · rintro b a w' ⟨ha, Q_HB, Q_BX, Q_P0⟩ hb_ hon hoff
      refine ⟨_, rfl, fun K hK => ?_⟩
      have e24 : a.tmps[24]? = some (.agg #[.int .i64 m.kind, .int .i64 m.src, .int .i64 m.dst, .int .u64 m.tnum, .int .i64 m.node, .int .u64 m.life, .int .i64 m.num, .int .i64 m.op, .string m.key, .string m.val, .bool m.has, .int .i64 m.code]) := by rw [ha]; exact putSel_on (e := (0, 24, .agg #[.int .i64 m.kind, .int .i64 m.src, .int .i64 m.dst, .int .u64 m.tnum, .int .i64 m.node, .int .u64 m.life, .int .i64 m.num, .int .i64 m.op, .string m.key, .string m.val, .bool m.has, .int .i64 m.code])) 0 rfl rfl (hon 0 (by kernel_rfl)) rfl
      replace ha := Aside0.mk ha
      have HB := Aside0.mk Q_HB
      have BX := Aside0.mk Q_BX
      have P0 := Aside0.mk Q_P0
      refine goes_ Try.func31 (by kernel_rfl) rfl #[.agg #[.int .i64 m.kind, .int .i64 m.src, .int .i64 m.dst, .int .u64 m.tnum, .int .i64 m.node, .int .u64 m.life, .int .i64 m.num, .int .i64 m.op, .string m.key, .string m.val, .bool m.has, .int .i64 m.code]] (by rfl) rfl rfl (by first | (simp only [List.map_toArray, List.map_cons, List.map_nil, Act.eval, Array.getD_eq_getD_getElem?, Option.getD_some, e24]; done) | (simp only [List.map_toArray, List.map_cons, List.map_nil, Act.eval, Array.getD_eq_getD_getElem?, Option.getD_some, e24]; rfl)) ?_
      refine (RG.out _).mono ?_
      rintro e_ wn_ ⟨rfl, hB_⟩
      refine ⟨_, rfl, ?_⟩
      refine hK.out _ _ ⟨(by rw [ha.out]; exact putSel_upk 1 hb_ rfl rfl rfl), (below_step HB.out hB_), (BX.out.below hB_), (P0.out.step hB_)⟩
    refine steps_cons ?_ ?_
    · rintro b a w' ⟨ha, Q_HB, Q_BX, Q_P0⟩ hb_ hon hoff
      refine ⟨_, rfl, fun K hK => ?_⟩
      have e1 : a.tmps[1]? = some (.pointer (some ⟨w.heap.size, 0, none⟩)) := by rw [ha]; exact (putSel_off rfl).trans rfl
      replace ha := Aside0.mk ha
      have HB := Aside0.mk Q_HB
      have BX := Aside0.mk Q_BX
      have P0 := Aside0.mk Q_P0
      obtain ⟨_, d0, d1, d2, d3, d4, d5, d6, d7, d8, d9, d10, d11⟩ := BX.out
      refine value_ (w1 := w') (v := .agg #[.int .i64 m.kind, .int .i64 m.src, .int .i64 m.dst, .int .u64 m.tnum, .int .i64 m.node, .int .u64 m.life, .int .i64 m.num, .int .i64 m.op, .string m.key, .string m.val, .bool m.has, .int .i64 m.code]) (by rfl) rfl ?_ ?_
      · go_simp
        (try simp only [i64_w])
        try rfl
      refine hK.out _ _ ⟨(by rw [ha.out]; exact putSel_upk 2 hb_ rfl rfl rfl), Q_HB, Q_BX, Q_P0⟩
    refine steps_cons ?_ ?_
    · rintro b a w' ⟨ha, Q_HB, Q_BX, Q_P0⟩ hb_ hon hoff
      refine ⟨_, rfl, fun K hK => ?_⟩
      have e26 : a.tmps[26]? = some (.agg #[.int .i64 m.kind, .int .i64 m.src, .int .i64 m.dst, .int .u64 m.tnum, .int .i64 m.node, .int .u64 m.life, .int .i64 m.num, .int .i64 m.op, .string m.key, .string m.val, .bool m.has, .int .i64 m.code]) := by rw [ha]; exact putSel_on (e := (2, 26, .agg #[.int .i64 m.kind, .int .i64 m.src, .int .i64 m.dst, .int .u64 m.tnum, .int .i64 m.node, .int .u64 m.life, .int .i64 m.num, .int .i64 m.op, .string m.key, .string m.val, .bool m.has, .int .i64 m.code])) 2 rfl rfl (hon 2 (by kernel_rfl)) rfl
      replace ha := Aside0.mk ha
      have HB := Aside0.mk Q_HB
      have BX := Aside0.mk Q_BX
      have P0 := Aside0.mk Q_P0
      refine goes_ Try.func32 (by kernel_rfl) rfl #[.agg #[.int .i64 m.kind, .int .i64 m.src, .int .i64 m.dst, .int .u64 m.tnum, .int .i64 m.node, .int .u64 m.life, .int .i64 m.num, .int .i64 m.op, .string m.key, .string m.val, .bool m.has, .int .i64 m.code]] (by rfl) rfl rfl (by first | (simp only [List.map_toArray, List.map_cons, List.map_nil, Act.eval, Array.getD_eq_getD_getElem?, Option.getD_some, e26]; done) | (simp only [List.map_toArray, List.map_cons, List.map_nil, Act.eval, Array.getD_eq_getD_getElem?, Option.getD_some, e26]; rfl)) ?_
      refine (RT.out _).mono ?_
      rintro e_ wn_ ⟨rfl, hB_⟩
      refine ⟨_, rfl, ?_⟩
      refine hK.out _ _ ⟨(by rw [ha.out]; exact putSel_upk 3 hb_ rfl rfl rfl), (below_step HB.out hB_), (BX.out.below hB_), (P0.out.step hB_)⟩
    refine steps_cons ?_ ?_
    · rintro b a w' ⟨ha, Q_HB, Q_BX, Q_P0⟩ hb_ hon hoff
      refine ⟨_, rfl, fun K hK => ?_⟩
      have e25 : a.tmps[25]? = some (.bool true) := by rw [ha]; exact putSel_on (e := (1, 25, .bool true)) 1 rfl rfl (hon 1 (by kernel_rfl)) rfl
      have e27 : a.tmps[27]? = some (.bool true) := by rw [ha]; exact putSel_on (e := (3, 27, .bool true)) 3 rfl rfl (hon 3 (by kernel_rfl)) rfl
      replace ha := Aside0.mk ha
      have HB := Aside0.mk Q_HB
      have BX := Aside0.mk Q_BX
      have P0 := Aside0.mk Q_P0
      refine value_ (w1 := w') (v := .bool false) (by rfl) rfl ?_ ?_
      · go_simp
        (try simp only [i64_w])
        try rfl
      refine hK.out _ _ ⟨(by rw [ha.out]; exact putSel_upk 4 hb_ rfl rfl rfl), Q_HB, Q_BX, Q_P0⟩
    exact steps_nil
  rintro b a w' hall ⟨ha, Q_HB, Q_BX, Q_P0⟩
  clear BX HB P0
  have hb0_ := hall 0 (by kernel_rfl)
  have hb1_ := hall 1 (by kernel_rfl)
  have hb2_ := hall 2 (by kernel_rfl)
  have hb3_ := hall 3 (by kernel_rfl)
  have hb4_ := hall 4 (by kernel_rfl)
  subst ha
  simp only [putSel, hb0_, hb1_, hb2_, hb3_, hb4_, if_true, Act.put, List.setIfInBounds_toArray, List.set_cons_zero, List.set_cons_succ]
  have HB := Aside0.mk Q_HB
  clear Q_HB
  have BX := Aside0.mk Q_BX
  clear Q_BX
  have P0 := Aside0.mk Q_P0
  clear Q_P0
  clear hall hb0_ hb1_ hb2_ hb3_ hb4_
  have HBa := Aside0.mk HB.out
  have BXa := Aside0.mk BX.out
  have P0a := Aside0.mk P0.out
  clear HB BX P0
  obtain ⟨_, d0, d1, d2, d3, d4, d5, d6, d7, d8, d9, d10, d11⟩ := BXa.out
  go_wp2_with fail
  refine (RT.out _).mono ?_
  rintro e w3 ⟨rfl, hb3⟩
  have HB3 := Aside0.mk (below_step HBa.out hb3)
  have BX3 := Aside0.mk (BXa.out.below hb3)
  have P3 := Aside0.mk (P0a.out.step hb3)
  clear hb3 d0 d1 d2 d3 d4 d5 d6 d7 d8 d9 d10 d11 HBa BXa P0a
  go_wp2_with fail
  refine (DX.out A c _ P3.out).mono ?_
  rintro e w4 ⟨rfl, hb4⟩
  have HB4 := Aside0.mk (below_step HB3.out hb4)
  have BX4 := Aside0.mk (BX3.out.below hb4)
  have P4' := Aside0.mk (P3.out.step hb4)
  clear hb4 HB3 BX3 P3
  go_upto_region 11 with fail
  obtain ⟨w5, hw5⟩ : ∃ w5, w5 = w4.alloc (.cells #[.int .i64 m.kind, .int .i64 m.src, .int .i64 m.dst, .int .u64 m.tnum, .int .i64 m.node, .int .u64 m.life, .int .i64 m.num, .int .i64 m.op, .string m.key, .string m.val, .bool m.has, .int .i64 m.code] 47) := ⟨_, rfl⟩
  have HB := Aside0.mk (below_alloc HB4.out (.cells #[.int .i64 m.kind, .int .i64 m.src, .int .i64 m.dst, .int .u64 m.tnum, .int .i64 m.node, .int .u64 m.life, .int .i64 m.num, .int .i64 m.op, .string m.key, .string m.val, .bool m.has, .int .i64 m.code] 47))
  have BX := Aside0.mk (BX4.out.below (below_alloc (Below.refl _ _) (.cells #[.int .i64 m.kind, .int .i64 m.src, .int .i64 m.dst, .int .u64 m.tnum, .int .i64 m.node, .int .u64 m.life, .int .i64 m.num, .int .i64 m.op, .string m.key, .string m.val, .bool m.has, .int .i64 m.code] 47)))
  have P0 := Aside0.mk (P4'.out.step (below_alloc (Below.refl _ _) (.cells #[.int .i64 m.kind, .int .i64 m.src, .int .i64 m.dst, .int .u64 m.tnum, .int .i64 m.node, .int .u64 m.life, .int .i64 m.num, .int .i64 m.op, .string m.key, .string m.val, .bool m.has, .int .i64 m.code] 47)))
  have BY := Aside0.mk (MBox.new m w4)
  rw [← hw5] at HB BX BY P0 ⊢
  clear hw5 HB4 BX4 P4' DX
  generalize w4.heap.size = k5 at BY ⊢
  refine start_ (n := 20) (S := fun w' => True) (ds := []) #[false, false, false, false, false, false, false, false, false, false, false, false, false, false, false, false, false, false, false, false] (by kernel_rfl) rfl rfl trivial (fun hHeld => ?_)
  refine with_tabW codes11.tab11 codes11.bits11 (fun HT_ HW_ => ?_)
  have n0 := Aside0.mk (below_drew HB.out)
  have n1 := Aside0.mk (BX.out.below (below_drew (Below.refl _ _)))
  have n2 := Aside0.mk (P0.out.step (below_drew (Below.refl _ _)))
  have n3 := Aside0.mk (BY.out.below (below_drew (Below.refl _ _)))
  clear HB BX BY P0
  generalize w5.drew = wd at n0 n1 n2 n3 hHeld ⊢
  have HB := n0
  have BX := n1
  have P0 := n2
  have BY := n3
  clear n0 n1 n2 n3 hHeld
  refine inv_at [0, 1, 2, 3, 4, 5, 6, 7, 8, 9, 10, 11, 12, 13, 14, 15, 16, 17, 18, 19] (fun a0_ b a w' => ∃ (A6 : Option Addr) (c6 : Nat) (m6_ : Value), a = putSel a0_ b [(0, 44, .int .i64 0), (1, 45, .bool true), (2, 46, .bool true), (3, 47, .slice A l.length c), (4, 48, .string (strOfNums l)), (5, 49, .agg #[.int .i64 m.kind, .int .i64 m.src, .int .i64 m.dst, .int .u64 m.tnum, .int .i64 m.node, .int .u64 m.life, .int .i64 m.num, .int .i64 m.op, .string m.key, .string m.val, .bool m.has, .int .i64 m.code]), (6, 50, m6_), (7, 51, .string (strOfNums l)), (8, 52, .bool true), (9, 53, .bool true), (10, 54, .bool true), (11, 55, .int .i64 0), (12, 56, .bool true), (13, 57, .bool true), (14, 58, .bool true), (15, 59, .agg #[.int .i64 m.kind, .int .i64 m.src, .int .i64 m.dst, .int .u64 m.tnum, .int .i64 m.node, .int .u64 m.life, .int .i64 m.num, .int .i64 m.op, .string m.key, .string m.val, .bool m.has, .int .i64 m.code]), (16, 60, .agg #[.int .i64 m.kind, .int .i64 m.src, .int .i64 m.dst, .int .u64 m.tnum, .int .i64 m.node, .int .u64 m.life, .int .i64 m.num, .int .i64 m.op, .string m.key, .string m.val, .bool m.has, .int .i64 m.code]), (17, 61, .bool true), (18, 62, .bool true), (19, 2, .bool true)] ∧ (Below w.heap.size w w') ∧ (MBox m w.heap.size w') ∧ (MBox m k5 w') ∧ (Cs w' A c l) ∧ (b 6 = true → Cs w' A6 c6 l) ∧ (b 6 = true → (m6_ : Value) = .slice A6 l.length c6)) HT_.out HW_.out (by kernel_rfl) (by kernel_rfl) ?_ ?_ ?_
  · exact ⟨none, 0, .bool false, by simp only [putSel, Bool.false_eq_true, if_false], HB.out, BX.out, BY.out, P0.out, fun h_ => absurd h_ (by decide), fun h_ => absurd h_ (by decide)⟩
  · skip
    clear BX BY HB P0
    refine steps_cons ?_ ?_
    · rintro b a w' ⟨A6, c6, m6_, ha, Q_HB, Q_BX, Q_BY, Q_P0, Q_P6, Q_X6_⟩ hb_ hon hoff
      refine ⟨_, rfl, fun K hK => ?_⟩
      have e4 : a.tmps[4]? = some (.int .i64 0) := by rw [ha]; exact (putSel_off rfl).trans rfl
      replace ha := Aside0.mk ha
      have HB := Aside0.mk Q_HB
      have BX := Aside0.mk Q_BX
      have BY := Aside0.mk Q_BY
      have P0 := Aside0.mk Q_P0
      refine value_ (w1 := w') (v := .int .i64 0) (by rfl) rfl ?_ ?_
      · go_simp
        (try simp only [i64_w])
        try rfl
      refine hK.out _ _ ⟨A6, c6, m6_, (by rw [ha.out]; exact putSel_upk 0 hb_ rfl rfl rfl), Q_HB, Q_BX, Q_BY, Q_P0, fun h0_ => absurd ((hoff 6 (by kernel_rfl)).symm.trans h0_) (by decide), fun h0_ => absurd ((hoff 6 (by kernel_rfl)).symm.trans h0_) (by decide)⟩
    refine steps_cons ?_ ?_
    · rintro b a w' ⟨A6, c6, m6_, ha, Q_HB, Q_BX, Q_BY, Q_P0, Q_P6, Q_X6_⟩ hb_ hon hoff
      refine ⟨_, rfl, fun K hK => ?_⟩
      have e44 : a.tmps[44]? = some (.int .i64 0) := by rw [ha]; exact putSel_on (e := (0, 44, .int .i64 0)) 0 rfl rfl (hon 0 (by kernel_rfl)) rfl
      replace ha := Aside0.mk ha
      have HB := Aside0.mk Q_HB
      have BX := Aside0.mk Q_BX
      have BY := Aside0.mk Q_BY
      have P0 := Aside0.mk Q_P0
      refine value_ (w1 := w') (v := .bool true) (by rfl) rfl ?_ ?_
      · go_simp
        (try simp only [i64_w])
        try rfl
      refine hK.out _ _ ⟨A6, c6, m6_, (by rw [ha.out]; exact putSel_upk 1 hb_ rfl rfl rfl), Q_HB, Q_BX, Q_BY, Q_P0, fun h0_ => absurd ((hoff 6 (by kernel_rfl)).symm.trans h0_) (by decide), fun h0_ => absurd ((hoff 6 (by kernel_rfl)).symm.trans h0_) (by decide)⟩
    refine steps_cons ?_ ?_
    · rintro b a w' ⟨A6, c6, m6_, ha, Q_HB, Q_BX, Q_BY, Q_P0, Q_P6, Q_X6_⟩ hb_ hon hoff
      refine ⟨_, rfl, fun K hK => ?_⟩
      have e45 : a.tmps[45]? = some (.bool true) := by rw [ha]; exact putSel_on (e := (1, 45, .bool true)) 1 rfl rfl (hon 1 (by kernel_rfl)) rfl
      replace ha := Aside0.mk ha
      have HB := Aside0.mk Q_HB
      have BX := Aside0.mk Q_BX
      have BY := Aside0.mk Q_BY
      have P0 := Aside0.mk Q_P0
      refine value_ (w1 := w') (v := .bool true) (by rfl) rfl ?_ ?_
      · go_simp
        (try simp only [i64_w])
        try rfl
      refine hK.out _ _ ⟨A6, c6, m6_, (by rw [ha.out]; exact putSel_upk 2 hb_ rfl rfl rfl), Q_HB, Q_BX, Q_BY, Q_P0, fun h0_ => absurd ((hoff 6 (by kernel_rfl)).symm.trans h0_) (by decide), fun h0_ => absurd ((hoff 6 (by kernel_rfl)).symm.trans h0_) (by decide)⟩
    refine steps_cons ?_ ?_
    · rintro b a w' ⟨A6, c6, m6_, ha, Q_HB, Q_BX, Q_BY, Q_P0, Q_P6, Q_X6_⟩ hb_ hon hoff
      refine ⟨_, rfl, fun K hK => ?_⟩
      have e3 : a.tmps[3]? = some (.slice A l.length c) := by rw [ha]; exact (putSel_off rfl).trans rfl
      have e46 : a.tmps[46]? = some (.bool true) := by rw [ha]; exact putSel_on (e := (2, 46, .bool true)) 2 rfl rfl (hon 2 (by kernel_rfl)) rfl
      replace ha := Aside0.mk ha
      have HB := Aside0.mk Q_HB
      have BX := Aside0.mk Q_BX
      have BY := Aside0.mk Q_BY
      have P0 := Aside0.mk Q_P0
      refine value_ (w1 := w') (v := .slice A l.length c) (wanted_on rfl rfl rfl (e46.trans (by first | rfl | (simp [*]; done)))) rfl ?_ ?_
      · go_simp
        (try simp only [i64_w])
        try rfl
      refine hK.out _ _ ⟨A6, c6, m6_, (by rw [ha.out]; exact putSel_upk 3 hb_ rfl rfl rfl), Q_HB, Q_BX, Q_BY, Q_P0, Q_P6, Q_X6_⟩
    refine steps_cons ?_ ?_
    · rintro b a w' ⟨A6, c6, m6_, ha, Q_HB, Q_BX, Q_BY, Q_P0, Q_P6, Q_X6_⟩ hb_ hon hoff
      refine ⟨_, rfl, fun K hK => ?_⟩
      have e47 : a.tmps[47]? = some (.slice A l.length c) := by rw [ha]; exact putSel_on (e := (3, 47, .slice A l.length c)) 3 rfl rfl (hon 3 (by kernel_rfl)) rfl
      have e46 : a.tmps[46]? = some (.bool true) := by rw [ha]; exact putSel_on (e := (2, 46, .bool true)) 2 rfl rfl (hon 2 (by kernel_rfl)) rfl
      replace ha := Aside0.mk ha
      have HB := Aside0.mk Q_HB
      have BX := Aside0.mk Q_BX
      have BY := Aside0.mk Q_BY
      have P0 := Aside0.mk Q_P0
      have hcv_ := P0.out.conv (Below.refl _ _)
      refine value_ (w1 := w') (v := .string (strOfNums l)) (wanted_on rfl rfl rfl (e46.trans (by first | rfl | (simp [*]; done)))) rfl ?_ ?_
      · go_simp
        (try simp only [i64_w])
        try rfl
      refine hK.out _ _ ⟨A6, c6, m6_, (by rw [ha.out]; exact putSel_upk 4 hb_ rfl rfl rfl), Q_HB, Q_BX, Q_BY, Q_P0, Q_P6, Q_X6_⟩
    refine steps_cons ?_ ?_
    · rintro b a w' ⟨A6, c6, m6_, ha, Q_HB, Q_BX, Q_BY, Q_P0, Q_P6, Q_X6_⟩ hb_ hon hoff
      refine ⟨_, rfl, fun K hK => ?_⟩
      have e1 : a.tmps[1]? = some (.pointer (some ⟨w.heap.size, 0, none⟩)) := by rw [ha]; exact (putSel_off rfl).trans rfl
      have e46 : a.tmps[46]? = some (.bool true) := by rw [ha]; exact putSel_on (e := (2, 46, .bool true)) 2 rfl rfl (hon 2 (by kernel_rfl)) rfl
      replace ha := Aside0.mk ha
      have HB := Aside0.mk Q_HB
      have BX := Aside0.mk Q_BX
      have BY := Aside0.mk Q_BY
      have P0 := Aside0.mk Q_P0
      obtain ⟨_, d0, d1, d2, d3, d4, d5, d6, d7, d8, d9, d10, d11⟩ := BX.out
      refine value_ (w1 := w') (v := .agg #[.int .i64 m.kind, .int .i64 m.src, .int .i64 m.dst, .int .u64 m.tnum, .int .i64 m.node, .int .u64 m.life, .int .i64 m.num, .int .i64 m.op, .string m.key, .string m.val, .bool m.has, .int .i64 m.code]) (wanted_on rfl rfl rfl (e46.trans (by first | rfl | (simp [*]; done)))) rfl ?_ ?_
      · go_simp
        (try simp only [i64_w])
        try rfl
      refine hK.out _ _ ⟨A6, c6, m6_, (by rw [ha.out]; exact putSel_upk 5 hb_ rfl rfl rfl), Q_HB, Q_BX, Q_BY, Q_P0, fun h0_ => absurd ((hoff 6 (by kernel_rfl)).symm.trans h0_) (by decide), fun h0_ => absurd ((hoff 6 (by kernel_rfl)).symm.trans h0_) (by decide)⟩
    refine steps_cons ?_ ?_
    · rintro b a w' ⟨A6, c6, m6_, ha, Q_HB, Q_BX, Q_BY, Q_P0, Q_P6, Q_X6_⟩ hb_ hon hoff
      refine ⟨_, rfl, fun K hK => ?_⟩
      have e49 : a.tmps[49]? = some (.agg #[.int .i64 m.kind, .int .i64 m.src, .int .i64 m.dst, .int .u64 m.tnum, .int .i64 m.node, .int .u64 m.life, .int .i64 m.num, .int .i64 m.op, .string m.key, .string m.val, .bool m.has, .int .i64 m.code]) := by rw [ha]; exact putSel_on (e := (5, 49, .agg #[.int .i64 m.kind, .int .i64 m.src, .int .i64 m.dst, .int .u64 m.tnum, .int .i64 m.node, .int .u64 m.life, .int .i64 m.num, .int .i64 m.op, .string m.key, .string m.val, .bool m.has, .int .i64 m.code])) 5 rfl rfl (hon 5 (by kernel_rfl)) rfl
      have e46 : a.tmps[46]? = some (.bool true) := by rw [ha]; exact putSel_on (e := (2, 46, .bool true)) 2 rfl rfl (hon 2 (by kernel_rfl)) rfl
      replace ha := Aside0.mk ha
      have HB := Aside0.mk Q_HB
      have BX := Aside0.mk Q_BX
      have BY := Aside0.mk Q_BY
      have P0 := Aside0.mk Q_P0
      refine goes_ Try.func34 (by kernel_rfl) rfl #[.agg #[.int .i64 m.kind, .int .i64 m.src, .int .i64 m.dst, .int .u64 m.tnum, .int .i64 m.node, .int .u64 m.life, .int .i64 m.num, .int .i64 m.op, .string m.key, .string m.val, .bool m.has, .int .i64 m.code]] (wanted_on rfl rfl rfl (e46.trans (by first | rfl | (simp [*]; done)))) rfl rfl (by first | (simp only [List.map_toArray, List.map_cons, List.map_nil, Act.eval, Array.getD_eq_getD_getElem?, Option.getD_some, e49, e46]; done) | (simp only [List.map_toArray, List.map_cons, List.map_nil, Act.eval, Array.getD_eq_getD_getElem?, Option.getD_some, e49, e46]; rfl)) ?_
      refine (BS.out _).mono ?_
      rintro e_ wn_ ⟨An_, cn_, rfl, hp_, hB_⟩
      refine ⟨_, rfl, ?_⟩
      refine hK.out _ _ ⟨An_, cn_, (.slice An_ l.length cn_), (by rw [ha.out]; exact putSel_upk 6 hb_ rfl rfl rfl), (below_step HB.out hB_), (BX.out.below hB_), (BY.out.below hB_), (P0.out.step hB_), fun _ => hp_, fun _ => rfl⟩
    refine steps_cons ?_ ?_
    · rintro b a w' ⟨A6, c6, m6_, ha, Q_HB, Q_BX, Q_BY, Q_P0, Q_P6, Q_X6_⟩ hb_ hon hoff
      refine ⟨_, rfl, fun K hK => ?_⟩
      have e50 : a.tmps[50]? = some (m6_) := by rw [ha]; exact putSel_on (e := (6, 50, m6_)) 6 rfl rfl (hon 6 (by kernel_rfl)) rfl
      rw [Q_X6_ (hon 6 (by kernel_rfl))] at e50
      have e46 : a.tmps[46]? = some (.bool true) := by rw [ha]; exact putSel_on (e := (2, 46, .bool true)) 2 rfl rfl (hon 2 (by kernel_rfl)) rfl
      replace ha := Aside0.mk ha
      have HB := Aside0.mk Q_HB
      have BX := Aside0.mk Q_BX
      have BY := Aside0.mk Q_BY
      have P0 := Aside0.mk Q_P0
      have P6 := Aside0.mk (Q_P6 (hon 6 (by kernel_rfl)))
      have hcv_ := P6.out.conv (Below.refl _ _)
      refine value_ (w1 := w') (v := .string (strOfNums l)) (wanted_on rfl rfl rfl (e46.trans (by first | rfl | (simp [*]; done)))) rfl ?_ ?_
      · go_simp
        (try simp only [i64_w])
        try rfl
      refine hK.out _ _ ⟨A6, c6, m6_, (by rw [ha.out]; exact putSel_upk 7 hb_ rfl rfl rfl), Q_HB, Q_BX, Q_BY, Q_P0, Q_P6, Q_X6_⟩
    refine steps_cons ?_ ?_
    · rintro b a w' ⟨A6, c6, m6_, ha, Q_HB, Q_BX, Q_BY, Q_P0, Q_P6, Q_X6_⟩ hb_ hon hoff
      refine ⟨_, rfl, fun K hK => ?_⟩
      have e48 : a.tmps[48]? = some (.string (strOfNums l)) := by rw [ha]; exact putSel_on (e := (4, 48, .string (strOfNums l))) 4 rfl rfl (hon 4 (by kernel_rfl)) rfl
      have e51 : a.tmps[51]? = some (.string (strOfNums l)) := by rw [ha]; exact putSel_on (e := (7, 51, .string (strOfNums l))) 7 rfl rfl (hon 7 (by kernel_rfl)) rfl
      have e46 : a.tmps[46]? = some (.bool true) := by rw [ha]; exact putSel_on (e := (2, 46, .bool true)) 2 rfl rfl (hon 2 (by kernel_rfl)) rfl
      replace ha := Aside0.mk ha
      have HB := Aside0.mk Q_HB
      have BX := Aside0.mk Q_BX
      have BY := Aside0.mk Q_BY
      have P0 := Aside0.mk Q_P0
      have P6 := Aside0.mk (Q_P6 (hon 6 (by kernel_rfl)))
      refine value_ (w1 := w') (v := .bool true) (wanted_on rfl rfl rfl (e46.trans (by first | rfl | (simp [*]; done)))) rfl ?_ ?_
      · go_simp
        (try simp only [i64_w])
        try rfl
      refine hK.out _ _ ⟨A6, c6, m6_, (by rw [ha.out]; exact putSel_upk 8 hb_ rfl rfl rfl), Q_HB, Q_BX, Q_BY, Q_P0, Q_P6, Q_X6_⟩
    refine steps_cons ?_ ?_
    · rintro b a w' ⟨A6, c6, m6_, ha, Q_HB, Q_BX, Q_BY, Q_P0, Q_P6, Q_X6_⟩ hb_ hon hoff
      refine ⟨_, rfl, fun K hK => ?_⟩
      have e46 : a.tmps[46]? = some (.bool true) := by rw [ha]; exact putSel_on (e := (2, 46, .bool true)) 2 rfl rfl (hon 2 (by kernel_rfl)) rfl
      have e52 : a.tmps[52]? = some (.bool true) := by rw [ha]; exact putSel_on (e := (8, 52, .bool true)) 8 rfl rfl (hon 8 (by kernel_rfl)) rfl
      replace ha := Aside0.mk ha
      have HB := Aside0.mk Q_HB
      have BX := Aside0.mk Q_BX
      have BY := Aside0.mk Q_BY
      have P0 := Aside0.mk Q_P0
      have P6 := Aside0.mk (Q_P6 (hon 6 (by kernel_rfl)))
      refine value_ (w1 := w') (v := .bool true) (by rfl) rfl ?_ ?_
      · go_simp
        (try simp only [i64_w])
        try rfl
      refine hK.out _ _ ⟨A6, c6, m6_, (by rw [ha.out]; exact putSel_upk 9 hb_ rfl rfl rfl), Q_HB, Q_BX, Q_BY, Q_P0, Q_P6, Q_X6_⟩
    refine steps_cons ?_ ?_
    · rintro b a w' ⟨A6, c6, m6_, ha, Q_HB, Q_BX, Q_BY, Q_P0, Q_P6, Q_X6_⟩ hb_ hon hoff
      refine ⟨_, rfl, fun K hK => ?_⟩
      have e53 : a.tmps[53]? = some (.bool true) := by rw [ha]; exact putSel_on (e := (9, 53, .bool true)) 9 rfl rfl (hon 9 (by kernel_rfl)) rfl
      replace ha := Aside0.mk ha
      have HB := Aside0.mk Q_HB
      have BX := Aside0.mk Q_BX
      have BY := Aside0.mk Q_BY
      have P0 := Aside0.mk Q_P0
      have P6 := Aside0.mk (Q_P6 (hon 6 (by kernel_rfl)))
      refine value_ (w1 := w') (v := .bool true) (by rfl) rfl ?_ ?_
      · go_simp
        (try simp only [i64_w])
        try rfl
      refine hK.out _ _ ⟨A6, c6, m6_, (by rw [ha.out]; exact putSel_upk 10 hb_ rfl rfl rfl), Q_HB, Q_BX, Q_BY, Q_P0, Q_P6, Q_X6_⟩
    refine steps_cons ?_ ?_
    · rintro b a w' ⟨A6, c6, m6_, ha, Q_HB, Q_BX, Q_BY, Q_P0, Q_P6, Q_X6_⟩ hb_ hon hoff
      refine ⟨_, rfl, fun K hK => ?_⟩
      have e6 : a.tmps[6]? = some (.int .i64 0) := by rw [ha]; exact (putSel_off rfl).trans rfl
      have e54 : a.tmps[54]? = some (.bool true) := by rw [ha]; exact putSel_on (e := (10, 54, .bool true)) 10 rfl rfl (hon 10 (by kernel_rfl)) rfl
      replace ha := Aside0.mk ha
      have HB := Aside0.mk Q_HB
      have BX := Aside0.mk Q_BX
      have BY := Aside0.mk Q_BY
      have P0 := Aside0.mk Q_P0
      have P6 := Aside0.mk (Q_P6 (hon 6 (by kernel_rfl)))
      refine value_ (w1 := w') (v := .int .i64 0) (wanted_on rfl rfl rfl (e54.trans (by first | rfl | (simp [*]; done)))) rfl ?_ ?_
      · go_simp
        (try simp only [i64_w])
        try rfl
      refine hK.out _ _ ⟨A6, c6, m6_, (by rw [ha.out]; exact putSel_upk 11 hb_ rfl rfl rfl), Q_HB, Q_BX, Q_BY, Q_P0, Q_P6, Q_X6_⟩
    refine steps_cons ?_ ?_
    · rintro b a w' ⟨A6, c6, m6_, ha, Q_HB, Q_BX, Q_BY, Q_P0, Q_P6, Q_X6_⟩ hb_ hon hoff
      refine ⟨_, rfl, fun K hK => ?_⟩
      have e55 : a.tmps[55]? = some (.int .i64 0) := by rw [ha]; exact putSel_on (e := (11, 55, .int .i64 0)) 11 rfl rfl (hon 11 (by kernel_rfl)) rfl
      have e54 : a.tmps[54]? = some (.bool true) := by rw [ha]; exact putSel_on (e := (10, 54, .bool true)) 10 rfl rfl (hon 10 (by kernel_rfl)) rfl
      replace ha := Aside0.mk ha
      have HB := Aside0.mk Q_HB
      have BX := Aside0.mk Q_BX
      have BY := Aside0.mk Q_BY
      have P0 := Aside0.mk Q_P0
      have P6 := Aside0.mk (Q_P6 (hon 6 (by kernel_rfl)))
      refine value_ (w1 := w') (v := .bool true) (wanted_on rfl rfl rfl (e54.trans (by first | rfl | (simp [*]; done)))) rfl ?_ ?_
      · go_simp
        (try simp only [i64_w])
        try rfl
      refine hK.out _ _ ⟨A6, c6, m6_, (by rw [ha.out]; exact putSel_upk 12 hb_ rfl rfl rfl), Q_HB, Q_BX, Q_BY, Q_P0, Q_P6, Q_X6_⟩
    refine steps_cons ?_ ?_
    · rintro b a w' ⟨A6, c6, m6_, ha, Q_HB, Q_BX, Q_BY, Q_P0, Q_P6, Q_X6_⟩ hb_ hon hoff
      refine ⟨_, rfl, fun K hK => ?_⟩
      have e54 : a.tmps[54]? = some (.bool true) := by rw [ha]; exact putSel_on (e := (10, 54, .bool true)) 10 rfl rfl (hon 10 (by kernel_rfl)) rfl
      have e56 : a.tmps[56]? = some (.bool true) := by rw [ha]; exact putSel_on (e := (12, 56, .bool true)) 12 rfl rfl (hon 12 (by kernel_rfl)) rfl
      replace ha := Aside0.mk ha
      have HB := Aside0.mk Q_HB
      have BX := Aside0.mk Q_BX
      have BY := Aside0.mk Q_BY
      have P0 := Aside0.mk Q_P0
      have P6 := Aside0.mk (Q_P6 (hon 6 (by kernel_rfl)))
      refine value_ (w1 := w') (v := .bool true) (by rfl) rfl ?_ ?_
      · go_simp
        (try simp only [i64_w])
        try rfl
      refine hK.out _ _ ⟨A6, c6, m6_, (by rw [ha.out]; exact putSel_upk 13 hb_ rfl rfl rfl), Q_HB, Q_BX, Q_BY, Q_P0, Q_P6, Q_X6_⟩
    refine steps_cons ?_ ?_
    · rintro b a w' ⟨A6, c6, m6_, ha, Q_HB, Q_BX, Q_BY, Q_P0, Q_P6, Q_X6_⟩ hb_ hon hoff
      refine ⟨_, rfl, fun K hK => ?_⟩
      have e57 : a.tmps[57]? = some (.bool true) := by rw [ha]; exact putSel_on (e := (13, 57, .bool true)) 13 rfl rfl (hon 13 (by kernel_rfl)) rfl
      replace ha := Aside0.mk ha
      have HB := Aside0.mk Q_HB
      have BX := Aside0.mk Q_BX
      have BY := Aside0.mk Q_BY
      have P0 := Aside0.mk Q_P0
      have P6 := Aside0.mk (Q_P6 (hon 6 (by kernel_rfl)))
      refine value_ (w1 := w') (v := .bool true) (by rfl) rfl ?_ ?_
      · go_simp
        (try simp only [i64_w])
        try rfl
      refine hK.out _ _ ⟨A6, c6, m6_, (by rw [ha.out]; exact putSel_upk 14 hb_ rfl rfl rfl), Q_HB, Q_BX, Q_BY, Q_P0, Q_P6, Q_X6_⟩
    refine steps_cons ?_ ?_
    · rintro b a w' ⟨A6, c6, m6_, ha, Q_HB, Q_BX, Q_BY, Q_P0, Q_P6, Q_X6_⟩ hb_ hon hoff
      refine ⟨_, rfl, fun K hK => ?_⟩
      have e5 : a.tmps[5]? = some (.pointer (some ⟨k5, 0, none⟩)) := by rw [ha]; exact (putSel_off rfl).trans rfl
      have e58 : a.tmps[58]? = some (.bool true) := by rw [ha]; exact putSel_on (e := (14, 58, .bool true)) 14 rfl rfl (hon 14 (by kernel_rfl)) rfl
      replace ha := Aside0.mk ha
      have HB := Aside0.mk Q_HB
      have BX := Aside0.mk Q_BX
      have BY := Aside0.mk Q_BY
      have P0 := Aside0.mk Q_P0
      have P6 := Aside0.mk (Q_P6 (hon 6 (by kernel_rfl)))
      obtain ⟨_, e0, e1, e2, e3, e4, e5, e6, e7, e8, e9, e10, e11⟩ := BY.out
      refine value_ (w1 := w') (v := .agg #[.int .i64 m.kind, .int .i64 m.src, .int .i64 m.dst, .int .u64 m.tnum, .int .i64 m.node, .int .u64 m.life, .int .i64 m.num, .int .i64 m.op, .string m.key, .string m.val, .bool m.has, .int .i64 m.code]) (wanted_on rfl rfl rfl (e58.trans (by first | rfl | (simp [*]; done)))) rfl ?_ ?_
      · go_simp
        (try simp only [i64_w])
        try rfl
      refine hK.out _ _ ⟨A6, c6, m6_, (by rw [ha.out]; exact putSel_upk 15 hb_ rfl rfl rfl), Q_HB, Q_BX, Q_BY, Q_P0, Q_P6, Q_X6_⟩
    refine steps_cons ?_ ?_
    · rintro b a w' ⟨A6, c6, m6_, ha, Q_HB, Q_BX, Q_BY, Q_P0, Q_P6, Q_X6_⟩ hb_ hon hoff
      refine ⟨_, rfl, fun K hK => ?_⟩
      have e1 : a.tmps[1]? = some (.pointer (some ⟨w.heap.size, 0, none⟩)) := by rw [ha]; exact (putSel_off rfl).trans rfl
      have e58 : a.tmps[58]? = some (.bool true) := by rw [ha]; exact putSel_on (e := (14, 58, .bool true)) 14 rfl rfl (hon 14 (by kernel_rfl)) rfl
      replace ha := Aside0.mk ha
      have HB := Aside0.mk Q_HB
      have BX := Aside0.mk Q_BX
      have BY := Aside0.mk Q_BY
      have P0 := Aside0.mk Q_P0
      have P6 := Aside0.mk (Q_P6 (hon 6 (by kernel_rfl)))
      obtain ⟨_, d0, d1, d2, d3, d4, d5, d6, d7, d8, d9, d10, d11⟩ := BX.out
      refine value_ (w1 := w') (v := .agg #[.int .i64 m.kind, .int .i64 m.src, .int .i64 m.dst, .int .u64 m.tnum, .int .i64 m.node, .int .u64 m.life, .int .i64 m.num, .int .i64 m.op, .string m.key, .string m.val, .bool m.has, .int .i64 m.code]) (wanted_on rfl rfl rfl (e58.trans (by first | rfl | (simp [*]; done)))) rfl ?_ ?_
      · go_simp
        (try simp only [i64_w])
        try rfl
      refine hK.out _ _ ⟨A6, c6, m6_, (by rw [ha.out]; exact putSel_upk 16 hb_ rfl rfl rfl), Q_HB, Q_BX, Q_BY, Q_P0, Q_P6, Q_X6_⟩
    refine steps_cons ?_ ?_
    · rintro b a w' ⟨A6, c6, m6_, ha, Q_HB, Q_BX, Q_BY, Q_P0, Q_P6, Q_X6_⟩ hb_ hon hoff
      refine ⟨_, rfl, fun K hK => ?_⟩
      have e59 : a.tmps[59]? = some (.agg #[.int .i64 m.kind, .int .i64 m.src, .int .i64 m.dst, .int .u64 m.tnum, .int .i64 m.node, .int .u64 m.life, .int .i64 m.num, .int .i64 m.op, .string m.key, .string m.val, .bool m.has, .int .i64 m.code]) := by rw [ha]; exact putSel_on (e := (15, 59, .agg #[.int .i64 m.kind, .int .i64 m.src, .int .i64 m.dst, .int .u64 m.tnum, .int .i64 m.node, .int .u64 m.life, .int .i64 m.num, .int .i64 m.op, .string m.key, .string m.val, .bool m.has, .int .i64 m.code])) 15 rfl rfl (hon 15 (by kernel_rfl)) rfl
      have e60 : a.tmps[60]? = some (.agg #[.int .i64 m.kind, .int .i64 m.src, .int .i64 m.dst, .int .u64 m.tnum, .int .i64 m.node, .int .u64 m.life, .int .i64 m.num, .int .i64 m.op, .string m.key, .string m.val, .bool m.has, .int .i64 m.code]) := by rw [ha]; exact putSel_on (e := (16, 60, .agg #[.int .i64 m.kind, .int .i64 m.src, .int .i64 m.dst, .int .u64 m.tnum, .int .i64 m.node, .int .u64 m.life, .int .i64 m.num, .int .i64 m.op, .string m.key, .string m.val, .bool m.has, .int .i64 m.code])) 16 rfl rfl (hon 16 (by kernel_rfl)) rfl
      have e58 : a.tmps[58]? = some (.bool true) := by rw [ha]; exact putSel_on (e := (14, 58, .bool true)) 14 rfl rfl (hon 14 (by kernel_rfl)) rfl
      replace ha := Aside0.mk ha
      have HB := Aside0.mk Q_HB
      have BX := Aside0.mk Q_BX
      have BY := Aside0.mk Q_BY
      have P0 := Aside0.mk Q_P0
      have P6 := Aside0.mk (Q_P6 (hon 6 (by kernel_rfl)))
      refine value_ (w1 := w') (v := .bool true) (wanted_on rfl rfl rfl (e58.trans (by first | rfl | (simp [*]; done)))) rfl ?_ ?_
      · go_simp
        (try simp only [i64_w])
        try rfl
      refine hK.out _ _ ⟨A6, c6, m6_, (by rw [ha.out]; exact putSel_upk 17 hb_ rfl rfl rfl), Q_HB, Q_BX, Q_BY, Q_P0, Q_P6, Q_X6_⟩
    refine steps_cons ?_ ?_
    · rintro b a w' ⟨A6, c6, m6_, ha, Q_HB, Q_BX, Q_BY, Q_P0, Q_P6, Q_X6_⟩ hb_ hon hoff
      refine ⟨_, rfl, fun K hK => ?_⟩
      have e58 : a.tmps[58]? = some (.bool true) := by rw [ha]; exact putSel_on (e := (14, 58, .bool true)) 14 rfl rfl (hon 14 (by kernel_rfl)) rfl
      have e61 : a.tmps[61]? = some (.bool true) := by rw [ha]; exact putSel_on (e := (17, 61, .bool true)) 17 rfl rfl (hon 17 (by kernel_rfl)) rfl
      replace ha := Aside0.mk ha
      have HB := Aside0.mk Q_HB
      have BX := Aside0.mk Q_BX
      have BY := Aside0.mk Q_BY
      have P0 := Aside0.mk Q_P0
      have P6 := Aside0.mk (Q_P6 (hon 6 (by kernel_rfl)))
      refine value_ (w1 := w') (v := .bool true) (by rfl) rfl ?_ ?_
      · go_simp
        (try simp only [i64_w])
        try rfl
      refine hK.out _ _ ⟨A6, c6, m6_, (by rw [ha.out]; exact putSel_upk 18 hb_ rfl rfl rfl), Q_HB, Q_BX, Q_BY, Q_P0, Q_P6, Q_X6_⟩
    refine steps_cons ?_ ?_
    · rintro b a w' ⟨A6, c6, m6_, ha, Q_HB, Q_BX, Q_BY, Q_P0, Q_P6, Q_X6_⟩ hb_ hon hoff
      refine ⟨_, rfl, fun K hK => ?_⟩
      have e62 : a.tmps[62]? = some (.bool true) := by rw [ha]; exact putSel_on (e := (18, 62, .bool true)) 18 rfl rfl (hon 18 (by kernel_rfl)) rfl
      replace ha := Aside0.mk ha
      have HB := Aside0.mk Q_HB
      have BX := Aside0.mk Q_BX
      have BY := Aside0.mk Q_BY
      have P0 := Aside0.mk Q_P0
      have P6 := Aside0.mk (Q_P6 (hon 6 (by kernel_rfl)))
      refine value_ (w1 := w') (v := .bool true) (by rfl) rfl ?_ ?_
      · go_simp
        (try simp only [i64_w])
        try rfl
      refine hK.out _ _ ⟨A6, c6, m6_, (by rw [ha.out]; exact putSel_upk 19 hb_ rfl rfl rfl), Q_HB, Q_BX, Q_BY, Q_P0, Q_P6, Q_X6_⟩
    exact steps_nil
  rintro b a w' hall ⟨A6, c6, m6_, ha, Q_HB, Q_BX, Q_BY, Q_P0, Q_P6, Q_X6_⟩
  clear BX BY HB P0
  have hb0_ := hall 0 (by kernel_rfl)
  have hb1_ := hall 1 (by kernel_rfl)
  have hb2_ := hall 2 (by kernel_rfl)
  have hb3_ := hall 3 (by kernel_rfl)
  have hb4_ := hall 4 (by kernel_rfl)
  have hb5_ := hall 5 (by kernel_rfl)
  have hb6_ := hall 6 (by kernel_rfl)
  have hb7_ := hall 7 (by kernel_rfl)
  have hb8_ := hall 8 (by kernel_rfl)
  have hb9_ := hall 9 (by kernel_rfl)
  have hb10_ := hall 10 (by kernel_rfl)
  have hb11_ := hall 11 (by kernel_rfl)
  have hb12_ := hall 12 (by kernel_rfl)
  have hb13_ := hall 13 (by kernel_rfl)
  have hb14_ := hall 14 (by kernel_rfl)
  have hb15_ := hall 15 (by kernel_rfl)
  have hb16_ := hall 16 (by kernel_rfl)
  have hb17_ := hall 17 (by kernel_rfl)
  have hb18_ := hall 18 (by kernel_rfl)
  have hb19_ := hall 19 (by kernel_rfl)
  subst ha
  obtain rfl := Q_X6_ hb6_
  simp only [putSel, hb0_, hb1_, hb2_, hb3_, hb4_, hb5_, hb6_, hb7_, hb8_, hb9_, hb10_, hb11_, hb12_, hb13_, hb14_, hb15_, hb16_, hb17_, hb18_, hb19_, if_true, Act.put, List.setIfInBounds_toArray, List.set_cons_zero, List.set_cons_succ]
  have HB := Aside0.mk Q_HB
  clear Q_HB
  have BX := Aside0.mk Q_BX
  clear Q_BX
  have BY := Aside0.mk Q_BY
  clear Q_BY
  have P0 := Aside0.mk Q_P0
  clear Q_P0
  have P6 := Aside0.mk (Q_P6 hb6_)
  clear Q_P6
  clear hall hb0_ hb1_ hb2_ hb3_ hb4_ hb5_ hb6_ hb7_ hb8_ hb9_ hb10_ hb11_ hb12_ hb13_ hb14_ hb15_ hb16_ hb17_ hb18_ hb19_
  go_wp2
  go_ret
  exact ⟨rfl, HB.out⟩

set_option maxHeartbeats 8000000 in
set_option maxRecDepth 100000 in
theorem bad (m : MsgV) (w : World) (hk : m.key.size ≤ 100) (hv : m.val.size ≤ 100)
    (RG : Aside0 (∀ w, Calls Try.prog 31 #[m.lay] w fun e w' => e = .returned (.bool false) ∧ Below w.heap.size w w'))
    (RT : Aside0 (∀ w, Calls Try.prog 32 #[m.lay] w fun e w' => e = .returned (.bool false) ∧ Below w.heap.size w w'))
    (EN : Aside0 (∀ w, Calls Try.prog 28 #[m.lay] w fun e w' => ∃ A c, e = .returned (.tuple #[.slice A 0 c, .int .i64 1]) ∧ Below w.heap.size w w')) :
    Calls Try.prog 12 #[m.lay] w fun e w' => e = .returned (.bool true) ∧ Below w.heap.size w w' := by
  have t1 : decide ((100 : Int) < (m.key.size : Int)) = false := decide_eq_false (by omega)
  have t2 : decide (100 < m.key.size) = false := decide_eq_false (by omega)
  have t3 : decide ((100 : Int) < (m.val.size : Int)) = false := decide_eq_false (by omega)
  have t4 : decide (100 < m.val.size) = false := decide_eq_false (by omega)
  have BX0 := Aside0.mk (MBox.new m w)
  go_enter Try.func12, Try.ntmps12
  go_wp2_with (go_at_call 27; refine (head_ok _).mono ?_; rintro e w1 ⟨rfl, hb1⟩; have HB1 := Aside0.mk (below_step (below_alloc (Below.refl _ _) _) hb1); have BX1 := Aside0.mk (BX0.out.below hb1); obtain ⟨_, d0, d1, d2, d3, d4, d5, d6, d7, d8, d9, d10, d11⟩ := BX1.out; clear hb1 BX0)
  refine (EN.out _).mono ?_
  rintro e w2 ⟨A, c, rfl, hb2⟩
  have HB := Aside0.mk (below_step HB1.out hb2)
  have BX := Aside0.mk (BX1.out.below hb2)
  clear hb2 d0 d1 d2 d3 d4 d5 d6 d7 d8 d9 d10 d11 HB1 BX1
  go_upto_region 6 with fail
  refine start_ (n := 5) (S := fun w' => True) (ds := []) #[false, false, false, false, false] (by kernel_rfl) rfl rfl trivial (fun hHeld => ?_)
  refine with_tabW codes6f.tab6 codes6f.bits6 (fun HT_ HW_ => ?_)
  have n0 := Aside0.mk (below_drew HB.out)
  have n1 := Aside0.mk (BX.out.below (below_drew (Below.refl _ _)))
  clear HB BX
  generalize w2.drew = wd at n0 n1 hHeld ⊢
  have HB := n0
  have BX := n1
  clear n0 n1 hHeld
  refine inv_at [0, 1, 2, 3, 4] (fun a0_ b a w' => a = putSel a0_ b [(0, 24, .agg #[.int .i64 m.kind, .int .i64 m.src, .int .i64 m.dst, .int .u64 m.tnum, .int .i64 m.node, .int .u64 m.life, .int .i64 m.num, .int .i64 m.op, .string m.key, .string m.val, .bool m.has, .int .i64 m.code]), (1, 25, .bool false), (2, 26, .agg #[.int .i64 m.kind, .int .i64 m.src, .int .i64 m.dst, .int .u64 m.tnum, .int .i64 m.node, .int .u64 m.life, .int .i64 m.num, .int .i64 m.op, .string m.key, .string m.val, .bool m.has, .int .i64 m.code]), (3, 27, .bool false), (4, 28, .bool false)] ∧ (Below w.heap.size w w') ∧ (MBox m w.heap.size w')) HT_.out HW_.out (by kernel_rfl) (by kernel_rfl) ?_ ?_ ?_
  · exact ⟨by simp only [putSel, Bool.false_eq_true, if_false], HB.out, BX.out⟩
  · skip
    clear BX HB
    refine steps_cons ?_ ?_
    · rintro b a w' ⟨ha, Q_HB, Q_BX⟩ hb_ hon hoff
      refine ⟨_, rfl, fun K hK => ?_⟩
      have e1 : a.tmps[1]? = some (.pointer (some ⟨w.heap.size, 0, none⟩)) := by rw [ha]; exact (putSel_off rfl).trans rfl
      replace ha := Aside0.mk ha
      have HB := Aside0.mk Q_HB
      have BX := Aside0.mk Q_BX
      obtain ⟨_, d0, d1, d2, d3, d4, d5, d6, d7, d8, d9, d10, d11⟩ := BX.out
      refine value_ (w1 := w') (v := .agg #[.int .i64 m.kind, .int .i64 m.src, .int .i64 m.dst, .int .u64 m.tnum, .int .i64 m.node, .int .u64 m.life, .int .i64 m.num, .int .i64 m.op, .string m.key, .string m.val, .bool m.has, .int .i64 m.code]) (by rfl) rfl ?_ ?_
      · go_simp
        (try simp only [i64_w])
        try rfl
      refine hK.out _ _ ⟨(by rw [ha.out]; exact putSel_upk 0 hb_ rfl rfl rfl), Q_HB, Q_BX⟩
    refine steps_cons ?_ ?_
    · rintro b a w' ⟨ha, Q_HB, Q_BX⟩ hb_ hon hoff
      refine ⟨_, rfl, fun K hK => ?_⟩
      have e24 : a.tmps[24]? = some (.agg #[.int .i64 m.kind, .int .i64 m.src, .int .i64 m.dst, .int .u64 m.tnum, .int .i64 m.node, .int .u64 m.life, .int .i64 m.num, .int .i64 m.op, .string m.key, .string m.val, .bool m.has, .int .i64 m.code]) := by rw [ha]; exact putSel_on (e := (0, 24, .agg #[.int .i64 m.kind, .int .i64 m.src, .int .i64 m.dst, .int .u64 m.tnum, .int .i64 m.node, .int .u64 m.life, .int .i64 m.num, .int .i64 m.op, .string m.key, .string m.val, .bool m.has, .int .i64 m.code])) 0 rfl rfl (hon 0 (by kernel_rfl)) rfl
      replace ha := Aside0.mk ha
      have HB := Aside0.mk Q_HB
      have BX := Aside0.mk Q_BX
      refine goes_ Try.func31 (by kernel_rfl) rfl #[.agg #[.int .i64 m.kind, .int .i64 m.src, .int .i64 m.dst, .int .u64 m.tnum, .int .i64 m.node, .int .u64 m.life, .int .i64 m.num, .int .i64 m.op, .string m.key, .string m.val, .bool m.has, .int .i64 m.code]] (by rfl) rfl rfl (by first | (simp only [List.map_toArray, List.map_cons, List.map_nil, Act.eval, Array.getD_eq_getD_getElem?, Option.getD_some, e24]; done) | (simp only [List.map_toArray, List.map_cons, List.map_nil, Act.eval, Array.getD_eq_getD_getElem?, Option.getD_some, e24]; rfl)) ?_
      refine (RG.out _).mono ?_
      rintro e_ wn_ ⟨rfl, hB_⟩
      refine ⟨_, rfl, ?_⟩
      refine hK.out _ _ ⟨(by rw [ha.out]; exact putSel_upk 1 hb_ rfl rfl rfl), (below_step HB.out hB_), (BX.out.below hB_)⟩
    refine steps_cons ?_ ?_
    · rintro b a w' ⟨ha, Q_HB, Q_BX⟩ hb_ hon hoff
      refine ⟨_, rfl, fun K hK => ?_⟩
      have e1 : a.tmps[1]? = some (.pointer (some ⟨w.heap.size, 0, none⟩)) := by rw [ha]; exact (putSel_off rfl).trans rfl
      replace ha := Aside0.mk ha
      have HB := Aside0.mk Q_HB
      have BX := Aside0.mk Q_BX
      obtain ⟨_, d0, d1, d2, d3, d4, d5, d6, d7, d8, d9, d10, d11⟩ := BX.out
      refine value_ (w1 := w') (v := .agg #[.int .i64 m.kind, .int .i64 m.src, .int .i64 m.dst, .int .u64 m.tnum, .int .i64 m.node, .int .u64 m.life, .int .i64 m.num, .int .i64 m.op, .string m.key, .string m.val, .bool m.has, .int .i64 m.code]) (by rfl) rfl ?_ ?_
      · go_simp
        (try simp only [i64_w])
        try rfl
      refine hK.out _ _ ⟨(by rw [ha.out]; exact putSel_upk 2 hb_ rfl rfl rfl), Q_HB, Q_BX⟩
    refine steps_cons ?_ ?_
    · rintro b a w' ⟨ha, Q_HB, Q_BX⟩ hb_ hon hoff
      refine ⟨_, rfl, fun K hK => ?_⟩
      have e26 : a.tmps[26]? = some (.agg #[.int .i64 m.kind, .int .i64 m.src, .int .i64 m.dst, .int .u64 m.tnum, .int .i64 m.node, .int .u64 m.life, .int .i64 m.num, .int .i64 m.op, .string m.key, .string m.val, .bool m.has, .int .i64 m.code]) := by rw [ha]; exact putSel_on (e := (2, 26, .agg #[.int .i64 m.kind, .int .i64 m.src, .int .i64 m.dst, .int .u64 m.tnum, .int .i64 m.node, .int .u64 m.life, .int .i64 m.num, .int .i64 m.op, .string m.key, .string m.val, .bool m.has, .int .i64 m.code])) 2 rfl rfl (hon 2 (by kernel_rfl)) rfl
      replace ha := Aside0.mk ha
      have HB := Aside0.mk Q_HB
      have BX := Aside0.mk Q_BX
      refine goes_ Try.func32 (by kernel_rfl) rfl #[.agg #[.int .i64 m.kind, .int .i64 m.src, .int .i64 m.dst, .int .u64 m.tnum, .int .i64 m.node, .int .u64 m.life, .int .i64 m.num, .int .i64 m.op, .string m.key, .string m.val, .bool m.has, .int .i64 m.code]] (by rfl) rfl rfl (by first | (simp only [List.map_toArray, List.map_cons, List.map_nil, Act.eval, Array.getD_eq_getD_getElem?, Option.getD_some, e26]; done) | (simp only [List.map_toArray, List.map_cons, List.map_nil, Act.eval, Array.getD_eq_getD_getElem?, Option.getD_some, e26]; rfl)) ?_
      refine (RT.out _).mono ?_
      rintro e_ wn_ ⟨rfl, hB_⟩
      refine ⟨_, rfl, ?_⟩
      refine hK.out _ _ ⟨(by rw [ha.out]; exact putSel_upk 3 hb_ rfl rfl rfl), (below_step HB.out hB_), (BX.out.below hB_)⟩
    refine steps_cons ?_ ?_
    · rintro b a w' ⟨ha, Q_HB, Q_BX⟩ hb_ hon hoff
      refine ⟨_, rfl, fun K hK => ?_⟩
      have e25 : a.tmps[25]? = some (.bool false) := by rw [ha]; exact putSel_on (e := (1, 25, .bool false)) 1 rfl rfl (hon 1 (by kernel_rfl)) rfl
      have e27 : a.tmps[27]? = some (.bool false) := by rw [ha]; exact putSel_on (e := (3, 27, .bool false)) 3 rfl rfl (hon 3 (by kernel_rfl)) rfl
      replace ha := Aside0.mk ha
      have HB := Aside0.mk Q_HB
      have BX := Aside0.mk Q_BX
      refine value_ (w1 := w') (v := .bool false) (by rfl) rfl ?_ ?_
      · go_simp
        (try simp only [i64_w])
        try rfl
      refine hK.out _ _ ⟨(by rw [ha.out]; exact putSel_upk 4 hb_ rfl rfl rfl), Q_HB, Q_BX⟩
    exact steps_nil
  rintro b a w' hall ⟨ha, Q_HB, Q_BX⟩
  clear BX HB
  have hb0_ := hall 0 (by kernel_rfl)
  have hb1_ := hall 1 (by kernel_rfl)
  have hb2_ := hall 2 (by kernel_rfl)
  have hb3_ := hall 3 (by kernel_rfl)
  have hb4_ := hall 4 (by kernel_rfl)
  subst ha
  simp only [putSel, hb0_, hb1_, hb2_, hb3_, hb4_, if_true, Act.put, List.setIfInBounds_toArray, List.set_cons_zero, List.set_cons_succ]
  have HB := Aside0.mk Q_HB
  clear Q_HB
  have BX := Aside0.mk Q_BX
  clear Q_BX
  clear hall hb0_ hb1_ hb2_ hb3_ hb4_
  have HBa := Aside0.mk HB.out
  have BXa := Aside0.mk BX.out
  clear HB BX
  obtain ⟨_, d0, d1, d2, d3, d4, d5, d6, d7, d8, d9, d10, d11⟩ := BXa.out
  go_wp2_with fail
  refine (RT.out _).mono ?_
  rintro e w3 ⟨rfl, hb3⟩
  have HB3 := Aside0.mk (below_step HBa.out hb3)
  clear hb3 d0 d1 d2 d3 d4 d5 d6 d7 d8 d9 d10 d11 HBa BXa
  go_wp2
  go_ret
  exact ⟨rfl, HB3.out⟩

set_option maxHeartbeats 8000000 in
set_option maxRecDepth 100000 in
theorem big (m : MsgV) (w : World) (h : 100 < m.key.size ∨ 100 < m.val.size) (h1 : m.key.size ≤ 9223372036854775807) (h2 : m.val.size ≤ 9223372036854775807) :
    Calls Try.prog 12 #[m.lay] w fun e w' => e = .returned (.bool true) ∧ Below w.heap.size w w' := by
  have J : decide ((100 : Int) < (m.key.size : Int)) = true ∨ decide ((100 : Int) < (m.key.size : Int)) = false ∧ decide ((100 : Int) < (m.val.size : Int)) = true := by
    by_cases c : 100 < m.key.size
    · exact .inl (decide_eq_true (by omega))
    · exact .inr ⟨decide_eq_false (by omega), decide_eq_true (by omega)⟩
  have BX0 := Aside0.mk (MBox.new m w)
  clear h
  rcases J with k1 | ⟨k1, k2⟩
  all_goals
    go_enter Try.func12, Try.ntmps12
    go_wp2_with (go_at_call 27; refine (head_ok _).mono ?_; rintro e w1 ⟨rfl, hb1⟩; have HB1 := Aside0.mk (below_step (below_alloc (Below.refl _ _) _) hb1); have BX1 := Aside0.mk (BX0.out.below hb1); obtain ⟨_, d0, d1, d2, d3, d4, d5, d6, d7, d8, d9, d10, d11⟩ := BX1.out; clear hb1 BX0)
    go_ret
    exact ⟨rfl, HB1.out⟩

theorem law_false (m : MsgV) (hk : m.key.size ≤ 9223372036854775807) (hv : m.val.size ≤ 9223372036854775807) (hl : 0 ≤ m.life) (h : rightM m = false) (w : World) :
    Calls Try.prog 32 #[m.lay] w fun e w' => e = .returned (.bool false) ∧ Below w.heap.size w w' := by
  obtain ⟨kind, src, dst, tnum, node, life, num, op, key, val, has, code⟩ := m
  rcases kinds kind with rfl | rfl | rfl | rfl | rfl | ⟨h2, h3, h4, h5, h6⟩
  · exact false_k2 src dst tnum node life num op key val has code w hk hv ⟨h⟩
  · exact false_k3 src dst tnum node life num op key val has code w hk hv ⟨h⟩
  · exact false_k4 src dst tnum node life num op key val has code w hk hv ⟨h⟩
  · exact false_k5 src dst tnum node life num op key val has code w hk hv ⟨h⟩
  · exact false_k6 src dst tnum node life num op key val has code w hk hv ⟨h⟩
  · exact false_o kind src dst tnum node life num op key val has code w hk hv hl h2 h3 h4 h5 h6 ⟨h⟩

theorem law_m (m : MsgV) (w : World) (wm : Wf m) :
    Calls Try.prog 12 #[m.lay] w fun e w' => e = .returned (.bool true) ∧ Below w.heap.size w w' := by
  by_cases hb : 100 < m.key.size ∨ 100 < m.val.size
  · exact big m w hb wm.key wm.val
  · rcases Bool.eq_false_or_eq_true (rightM m) with h | h
    · exact good m (encM m) w (by omega) (by omega) ⟨fun w => by have := right_ok m w wm.key wm.val; rw [h] at this; exact this⟩ ⟨fun w => law_true m wm h w⟩ ⟨fun w => enc_ok m wm h w⟩ ⟨fun w => byts_ok m wm h w⟩ ⟨fun A c w hs => dec_ok m wm h A c w hs⟩
    · exact bad m w (by omega) (by omega) ⟨fun w => by have := right_ok m w wm.key wm.val; rw [h] at this; exact this⟩ ⟨fun w => law_false m wm.key wm.val wm.life.1 h w⟩ ⟨fun w => enc_no m wm h w⟩

theorem law_ok (k1 s1 d1 : Int) (t1 n1 l1 u1 o1 : Int) (y1 v1 : ByteArray) (h1 : Bool) (c1 : Int) (w : World)
    (_ : (Lit.int .i64 k1).wf = true) (_ : (Lit.int .i64 s1).wf = true) (_ : (Lit.int .i64 d1).wf = true) (ht1 : (Lit.int .u64 t1).wf = true) (_ : (Lit.int .i64 n1).wf = true) (hl1 : (Lit.int .u64 l1).wf = true) (_ : (Lit.int .i64 u1).wf = true) (_ : (Lit.int .i64 o1).wf = true) (hy1 : y1.size ≤ maxLen) (hv1 : v1.size ≤ maxLen) (_ : (Lit.int .i64 c1).wf = true) :
    Calls Try.prog 12 #[.agg #[.int .i64 k1, .int .i64 s1, .int .i64 d1, .int .u64 t1, .int .i64 n1, .int .u64 l1, .int .i64 u1, .int .i64 o1, .string y1, .string v1, .bool h1, .int .i64 c1]] w fun e w' => e = .returned (.bool true) ∧ Below w.heap.size w w' := by
  have b1 := bounds_u64 ht1
  have b2 := bounds_u64 hl1
  simp only [maxLen] at hy1 hv1
  exact law_m ⟨k1, s1, d1, t1, n1, l1, u1, o1, y1, v1, h1, c1⟩ w ⟨by dsimp only; omega, by dsimp only; omega, by dsimp only; omega, by dsimp only; omega⟩

end Go.Proofs.Ytolcmjoapnldiaa.MsgCodes
