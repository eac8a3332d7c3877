/- Proved: MsgReads answers true: whatever bytes: the message that they are, just so, or none. No conditions beyond the given statement's. -/
import Derived.Test.YtolcmjoapnldiaaMsgByt
import Derived.Test.YtolcmjoapnldiaaMsgLawT
import Derived.Deep.QuietTactic
import Derived.BigQuiet
import Derived.Deep.RegionHeld3
import Derived.Deep.RegionWith
import Derived.RegionTactic
import Derived.Tactics2
namespace Go.Proofs.Ytolcmjoapnldiaa.MsgReads
open Go Go.RowKit Go.Proofs.Ytolcmjoapnldiaa.Q Go.Proofs.YtolcmjoapnldiaaW.PrintWords Go.Proofs.YtolcmjoapnldiaaW.PrintLast Go.Proofs.Ytolcmjoapnldiaa.Leb Go.Proofs.Ytolcmjoapnldiaa.Str Go.Proofs.Ytolcmjoapnldiaa.Msg
set_option linter.unusedVariables false
set_option linter.unusedSimpArgs false
attribute [local go_sem high] eqA47

def reads8.T8 : Bool × List (List Nat × List Nat) := (true, [([], []), ([0], [0]), ([1, 1], [1]), ([2], [2]), ([3, 2, 2], [2, 3]), ([4, 2], [2, 4]), ([2], [2]), ([6, 2], [2, 6]), ([5, 7, 2], [2, 5, 7]), ([2, 8], [2, 8]), ([9, 4, 0, 1, 2, 3, 4, 5, 6, 7, 8, 9], [9])])
def reads8.B8 : List Nat := [0, 1, 3, 7, 15, 31, 7, 71, 255, 511, 1023]
theorem reads8.tab8 : rtab .any (opsOf Try.f13 8) = reads8.T8 := by kernel_rfl
theorem reads8.bits8 : waitsOk reads8.T8.2 reads8.B8 = true := by kernel_rfl
set_option maxHeartbeats 8000000 in
set_option maxRecDepth 100000 in
theorem good (A : Option Addr) (c : Nat) (l : List Int) (m : MsgV) (w : World) (hs : Cs w A c l) (hl : l.length ≤ 300)
    (RT : Aside0 (∀ w, Calls Try.prog 32 #[m.lay] w fun e w' => e = .returned (.bool true) ∧ Below w.heap.size w w'))
    (BY : Aside0 (∀ w, Calls Try.prog 34 #[m.lay] w fun e w' => ∃ A c, e = .returned (.slice A l.length c) ∧ Cs w' A c l ∧ Below w.heap.size w w'))
    (DX : Aside0 (∀ (A : Option Addr) (c : Nat) (w : World), Cs w A c l → Calls Try.prog 33 #[.slice A l.length c] w fun e w' => e = .returned (.tuple #[m.lay, .int .i64 0]) ∧ Below w.heap.size w w')) :
    Calls Try.prog 13 #[.slice A l.length c] w fun e w' => e = .returned (.bool true) ∧ Below w.heap.size w w' := by
  have t1 : decide ((300 : Int) < (l.length : Int)) = false := decide_eq_false (by omega)
  have t2 : decide (300 < l.length) = false := decide_eq_false (by omega)
  have S0 := Aside0.mk hs
  clear hs hl
  simp only [MsgV.lay] at DX
  go_enter Try.func13, Try.ntmps13
  go_wp2_with (go_at_call 27; refine (head_ok _).mono ?_; rintro e w1 ⟨rfl, hb1⟩; have HB1 := Aside0.mk hb1; clear hb1)
  refine (DX.out A c _ (S0.out.step HB1.out)).mono ?_
  rintro e w2 ⟨rfl, hb2⟩
  have HB2 := Aside0.mk (below_step HB1.out hb2)
  clear hb2 HB1
  go_upto_region 8 with fail
  obtain ⟨w3, hw3⟩ : ∃ w3, w3 = w2.alloc (.cells #[.int .i64 m.kind, .int .i64 m.src, .int .i64 m.dst, .int .u64 m.tnum, .int .i64 m.node, .int .u64 m.life, .int .i64 m.num, .int .i64 m.op, .string m.key, .string m.val, .bool m.has, .int .i64 m.code] 47) := ⟨_, rfl⟩
  have HB := Aside0.mk (below_alloc HB2.out (.cells #[.int .i64 m.kind, .int .i64 m.src, .int .i64 m.dst, .int .u64 m.tnum, .int .i64 m.node, .int .u64 m.life, .int .i64 m.num, .int .i64 m.op, .string m.key, .string m.val, .bool m.has, .int .i64 m.code] 47))
  have BX := Aside0.mk (MBox.new m w2)
  rw [← hw3] at HB BX ⊢
  have P0 := Aside0.mk (S0.out.step HB.out)
  clear hw3 HB2 S0 DX
  generalize w2.heap.size = k3 at BX ⊢
  refine start_ (n := 11) (S := fun w' => True) (ds := []) #[false, false, false, false, false, false, false, false, false, false, false] (by kernel_rfl) rfl rfl trivial (fun hHeld => ?_)
  refine with_tabW reads8.tab8 reads8.bits8 (fun HT_ HW_ => ?_)
  have n0 := Aside0.mk (below_drew HB.out)
  have n1 := Aside0.mk (BX.out.below (below_drew (Below.refl _ _)))
  have n2 := Aside0.mk (P0.out.step (below_drew (Below.refl _ _)))
  clear HB BX P0
  generalize w3.drew = wd at n0 n1 n2 hHeld ⊢
  have HB := n0
  have BX := n1
  have P0 := n2
  clear n0 n1 n2 hHeld
  refine inv_at [0, 1, 2, 3, 4, 5, 6, 7, 8, 9, 10] (fun a0_ b a w' => ∃ (A4 : Option Addr) (c4 : Nat) (m4_ : Value), a = putSel a0_ b [(0, 24, .agg #[.int .i64 m.kind, .int .i64 m.src, .int .i64 m.dst, .int .u64 m.tnum, .int .i64 m.node, .int .u64 m.life, .int .i64 m.num, .int .i64 m.op, .string m.key, .string m.val, .bool m.has, .int .i64 m.code]), (1, 25, .bool true), (2, 26, .bool true), (3, 27, .agg #[.int .i64 m.kind, .int .i64 m.src, .int .i64 m.dst, .int .u64 m.tnum, .int .i64 m.node, .int .u64 m.life, .int .i64 m.num, .int .i64 m.op, .string m.key, .string m.val, .bool m.has, .int .i64 m.code]), (4, 28, m4_), (5, 29, .string (strOfNums l)), (6, 30, .slice A l.length c), (7, 31, .string (strOfNums l)), (8, 32, .bool true), (9, 33, .bool true), (10, 2, .bool true)] ∧ (Below w.heap.size w w') ∧ (MBox m k3 w') ∧ (Cs w' A c l) ∧ (b 4 = true → Cs w' A4 c4 l) ∧ (b 4 = true → (m4_ : Value) = .slice A4 l.length c4)) HT_.out HW_.out (by kernel_rfl) (by kernel_rfl) ?_ ?_ ?_
  · exact ⟨none, 0, .bool false, by simp only [putSel, Bool.false_eq_true, if_false], HB.out, BX.out, P0.out, fun h_ => absurd h_ (by decide), fun h_ => absurd h_ (by decide)⟩
  · skip
    clear BX HB P0
    refine steps_cons ?_ ?_
    · rintro b a w' ⟨A4, c4, m4_, ha, Q_HB, Q_BX, Q_P0, Q_P4, Q_X4_⟩ hb_ hon hoff
      refine ⟨_, rfl, fun K hK => ?_⟩
      have e3 : a.tmps[3]? = some (.pointer (some ⟨k3, 0, none⟩)) := by rw [ha]; exact (putSel_off rfl).trans rfl
      replace ha := Aside0.mk ha
      have HB := Aside0.mk Q_HB
      have BX := Aside0.mk Q_BX
      have P0 := Aside0.mk Q_P0
      obtain ⟨_, d0, d1, d2, d3, d4, d5, d6, d7, d8, d9, d10, d11⟩ := BX.out
      refine value_ (w1 := w') (v := .agg #[.int .i64 m.kind, .int .i64 m.src, .int .i64 m.dst, .int .u64 m.tnum, .int .i64 m.node, .int .u64 m.life, .int .i64 m.num, .int .i64 m.op, .string m.key, .string m.val, .bool m.has, .int .i64 m.code]) (by rfl) rfl ?_ ?_
      · go_simp
        (try simp only [i64_w])
        try rfl
      refine hK.out _ _ ⟨A4, c4, m4_, (by rw [ha.out]; exact putSel_upk 0 hb_ rfl rfl rfl), Q_HB, Q_BX, Q_P0, fun h0_ => absurd ((hoff 4 (by kernel_rfl)).symm.trans h0_) (by decide), fun h0_ => absurd ((hoff 4 (by kernel_rfl)).symm.trans h0_) (by decide)⟩
    refine steps_cons ?_ ?_
    · rintro b a w' ⟨A4, c4, m4_, ha, Q_HB, Q_BX, Q_P0, Q_P4, Q_X4_⟩ hb_ hon hoff
      refine ⟨_, rfl, fun K hK => ?_⟩
      have e24 : a.tmps[24]? = some (.agg #[.int .i64 m.kind, .int .i64 m.src, .int .i64 m.dst, .int .u64 m.tnum, .int .i64 m.node, .int .u64 m.life, .int .i64 m.num, .int .i64 m.op, .string m.key, .string m.val, .bool m.has, .int .i64 m.code]) := by rw [ha]; exact putSel_on (e := (0, 24, .agg #[.int .i64 m.kind, .int .i64 m.src, .int .i64 m.dst, .int .u64 m.tnum, .int .i64 m.node, .int .u64 m.life, .int .i64 m.num, .int .i64 m.op, .string m.key, .string m.val, .bool m.has, .int .i64 m.code])) 0 rfl rfl (hon 0 (by kernel_rfl)) rfl
      replace ha := Aside0.mk ha
      have HB := Aside0.mk Q_HB
      have BX := Aside0.mk Q_BX
      have P0 := Aside0.mk Q_P0
      refine goes_ Try.func32 (by kernel_rfl) rfl #[.agg #[.int .i64 m.kind, .int .i64 m.src, .int .i64 m.dst, .int .u64 m.tnum, .int .i64 m.node, .int .u64 m.life, .int .i64 m.num, .int .i64 m.op, .string m.key, .string m.val, .bool m.has, .int .i64 m.code]] (by rfl) rfl rfl (by first | (simp only [List.map_toArray, List.map_cons, List.map_nil, Act.eval, Array.getD_eq_getD_getElem?, Option.getD_some, e24]; done) | (simp only [List.map_toArray, List.map_cons, List.map_nil, Act.eval, Array.getD_eq_getD_getElem?, Option.getD_some, e24]; rfl)) ?_
      refine (RT.out _).mono ?_
      rintro e_ wn_ ⟨rfl, hB_⟩
      refine ⟨_, rfl, ?_⟩
      refine hK.out _ _ ⟨A4, c4, m4_, (by rw [ha.out]; exact putSel_upk 1 hb_ rfl rfl rfl), (below_step HB.out hB_), (BX.out.below hB_), (P0.out.step hB_), fun h0_ => absurd ((hoff 4 (by kernel_rfl)).symm.trans h0_) (by decide), fun h0_ => absurd ((hoff 4 (by kernel_rfl)).symm.trans h0_) (by decide)⟩
    refine steps_cons ?_ ?_
    · rintro b a w' ⟨A4, c4, m4_, ha, Q_HB, Q_BX, Q_P0, Q_P4, Q_X4_⟩ hb_ hon hoff
      refine ⟨_, rfl, fun K hK => ?_⟩
      have e25 : a.tmps[25]? = some (.bool true) := by rw [ha]; exact putSel_on (e := (1, 25, .bool true)) 1 rfl rfl (hon 1 (by kernel_rfl)) rfl
      replace ha := Aside0.mk ha
      have HB := Aside0.mk Q_HB
      have BX := Aside0.mk Q_BX
      have P0 := Aside0.mk Q_P0
      refine value_ (w1 := w') (v := .bool true) (by rfl) rfl ?_ ?_
      · go_simp
        (try simp only [i64_w])
        try rfl
      refine hK.out _ _ ⟨A4, c4, m4_, (by rw [ha.out]; exact putSel_upk 2 hb_ rfl rfl rfl), Q_HB, Q_BX, Q_P0, fun h0_ => absurd ((hoff 4 (by kernel_rfl)).symm.trans h0_) (by decide), fun h0_ => absurd ((hoff 4 (by kernel_rfl)).symm.trans h0_) (by decide)⟩
    refine steps_cons ?_ ?_
    · rintro b a w' ⟨A4, c4, m4_, ha, Q_HB, Q_BX, Q_P0, Q_P4, Q_X4_⟩ hb_ hon hoff
      refine ⟨_, rfl, fun K hK => ?_⟩
      have e3 : a.tmps[3]? = some (.pointer (some ⟨k3, 0, none⟩)) := by rw [ha]; exact (putSel_off rfl).trans rfl
      have e26 : a.tmps[26]? = some (.bool true) := by rw [ha]; exact putSel_on (e := (2, 26, .bool true)) 2 rfl rfl (hon 2 (by kernel_rfl)) rfl
      replace ha := Aside0.mk ha
      have HB := Aside0.mk Q_HB
      have BX := Aside0.mk Q_BX
      have P0 := Aside0.mk Q_P0
      obtain ⟨_, d0, d1, d2, d3, d4, d5, d6, d7, d8, d9, d10, d11⟩ := BX.out
      refine value_ (w1 := w') (v := .agg #[.int .i64 m.kind, .int .i64 m.src, .int .i64 m.dst, .int .u64 m.tnum, .int .i64 m.node, .int .u64 m.life, .int .i64 m.num, .int .i64 m.op, .string m.key, .string m.val, .bool m.has, .int .i64 m.code]) (wanted_on rfl rfl rfl (e26.trans (by first | rfl | (simp [*]; done)))) rfl ?_ ?_
      · go_simp
        (try simp only [i64_w])
        try rfl
      refine hK.out _ _ ⟨A4, c4, m4_, (by rw [ha.out]; exact putSel_upk 3 hb_ rfl rfl rfl), Q_HB, Q_BX, Q_P0, fun h0_ => absurd ((hoff 4 (by kernel_rfl)).symm.trans h0_) (by decide), fun h0_ => absurd ((hoff 4 (by kernel_rfl)).symm.trans h0_) (by decide)⟩
    refine steps_cons ?_ ?_
    · rintro b a w' ⟨A4, c4, m4_, ha, Q_HB, Q_BX, Q_P0, Q_P4, Q_X4_⟩ hb_ hon hoff
      refine ⟨_, rfl, fun K hK => ?_⟩
      have e27 : a.tmps[27]? = some (.agg #[.int .i64 m.kind, .int .i64 m.src, .int .i64 m.dst, .int .u64 m.tnum, .int .i64 m.node, .int .u64 m.life, .int .i64 m.num, .int .i64 m.op, .string m.key, .string m.val, .bool m.has, .int .i64 m.code]) := by rw [ha]; exact putSel_on (e := (3, 27, .agg #[.int .i64 m.kind, .int .i64 m.src, .int .i64 m.dst, .int .u64 m.tnum, .int .i64 m.node, .int .u64 m.life, .int .i64 m.num, .int .i64 m.op, .string m.key, .string m.val, .bool m.has, .int .i64 m.code])) 3 rfl rfl (hon 3 (by kernel_rfl)) rfl
      have e26 : a.tmps[26]? = some (.bool true) := by rw [ha]; exact putSel_on (e := (2, 26, .bool true)) 2 rfl rfl (hon 2 (by kernel_rfl)) rfl
      replace ha := Aside0.mk ha
      have HB := Aside0.mk Q_HB
      have BX := Aside0.mk Q_BX
      have P0 := Aside0.mk Q_P0
      refine goes_ Try.func34 (by kernel_rfl) rfl #[.agg #[.int .i64 m.kind, .int .i64 m.src, .int .i64 m.dst, .int .u64 m.tnum, .int .i64 m.node, .int .u64 m.life, .int .i64 m.num, .int .i64 m.op, .string m.key, .string m.val, .bool m.has, .int .i64 m.code]] (wanted_on rfl rfl rfl (e26.trans (by first | rfl | (simp [*]; done)))) rfl rfl (by first | (simp only [List.map_toArray, List.map_cons, List.map_nil, Act.eval, Array.getD_eq_getD_getElem?, Option.getD_some, e27, e26]; done) | (simp only [List.map_toArray, List.map_cons, List.map_nil, Act.eval, Array.getD_eq_getD_getElem?, Option.getD_some, e27, e26]; rfl)) ?_
      refine (BY.out _).mono ?_
      rintro e_ wn_ ⟨An_, cn_, rfl, hp_, hB_⟩
      refine ⟨_, rfl, ?_⟩
      refine hK.out _ _ ⟨An_, cn_, (.slice An_ l.length cn_), (by rw [ha.out]; exact putSel_upk 4 hb_ rfl rfl rfl), (below_step HB.out hB_), (BX.out.below hB_), (P0.out.step hB_), fun _ => hp_, fun _ => rfl⟩
    refine steps_cons ?_ ?_
    · rintro b a w' ⟨A4, c4, m4_, ha, Q_HB, Q_BX, Q_P0, Q_P4, Q_X4_⟩ hb_ hon hoff
      refine ⟨_, rfl, fun K hK => ?_⟩
      have e28 : a.tmps[28]? = some (m4_) := by rw [ha]; exact putSel_on (e := (4, 28, m4_)) 4 rfl rfl (hon 4 (by kernel_rfl)) rfl
      rw [Q_X4_ (hon 4 (by kernel_rfl))] at e28
      have e26 : a.tmps[26]? = some (.bool true) := by rw [ha]; exact putSel_on (e := (2, 26, .bool true)) 2 rfl rfl (hon 2 (by kernel_rfl)) rfl
      replace ha := Aside0.mk ha
      have HB := Aside0.mk Q_HB
      have BX := Aside0.mk Q_BX
      have P0 := Aside0.mk Q_P0
      have P4 := Aside0.mk (Q_P4 (hon 4 (by kernel_rfl)))
      have hcv_ := P4.out.conv (Below.refl _ _)
      refine value_ (w1 := w') (v := .string (strOfNums l)) (wanted_on rfl rfl rfl (e26.trans (by first | rfl | (simp [*]; done)))) rfl ?_ ?_
      · go_simp
        (try simp only [i64_w])
        try rfl
      refine hK.out _ _ ⟨A4, c4, m4_, (by rw [ha.out]; exact putSel_upk 5 hb_ rfl rfl rfl), Q_HB, Q_BX, Q_P0, Q_P4, Q_X4_⟩
    refine steps_cons ?_ ?_
    · rintro b a w' ⟨A4, c4, m4_, ha, Q_HB, Q_BX, Q_P0, Q_P4, Q_X4_⟩ hb_ hon hoff
      refine ⟨_, rfl, fun K hK => ?_⟩
      have e0 : a.tmps[0]? = some (.slice A l.length c) := by rw [ha]; exact (putSel_off rfl).trans rfl
      have e26 : a.tmps[26]? = some (.bool true) := by rw [ha]; exact putSel_on (e := (2, 26, .bool true)) 2 rfl rfl (hon 2 (by kernel_rfl)) rfl
      replace ha := Aside0.mk ha
      have HB := Aside0.mk Q_HB
      have BX := Aside0.mk Q_BX
      have P0 := Aside0.mk Q_P0
      refine value_ (w1 := w') (v := .slice A l.length c) (wanted_on rfl rfl rfl (e26.trans (by first | rfl | (simp [*]; done)))) rfl ?_ ?_
      · go_simp
        (try simp only [i64_w])
        try rfl
      refine hK.out _ _ ⟨A4, c4, m4_, (by rw [ha.out]; exact putSel_upk 6 hb_ rfl rfl rfl), Q_HB, Q_BX, Q_P0, Q_P4, Q_X4_⟩
    refine steps_cons ?_ ?_
    · rintro b a w' ⟨A4, c4, m4_, ha, Q_HB, Q_BX, Q_P0, Q_P4, Q_X4_⟩ hb_ hon hoff
      refine ⟨_, rfl, fun K hK => ?_⟩
      have e30 : a.tmps[30]? = some (.slice A l.length c) := by rw [ha]; exact putSel_on (e := (6, 30, .slice A l.length c)) 6 rfl rfl (hon 6 (by kernel_rfl)) rfl
      have e26 : a.tmps[26]? = some (.bool true) := by rw [ha]; exact putSel_on (e := (2, 26, .bool true)) 2 rfl rfl (hon 2 (by kernel_rfl)) rfl
      replace ha := Aside0.mk ha
      have HB := Aside0.mk Q_HB
      have BX := Aside0.mk Q_BX
      have P0 := Aside0.mk Q_P0
      have hcv_ := P0.out.conv (Below.refl _ _)
      refine value_ (w1 := w') (v := .string (strOfNums l)) (wanted_on rfl rfl rfl (e26.trans (by first | rfl | (simp [*]; done)))) rfl ?_ ?_
      · go_simp
        (try simp only [i64_w])
        try rfl
      refine hK.out _ _ ⟨A4, c4, m4_, (by rw [ha.out]; exact putSel_upk 7 hb_ rfl rfl rfl), Q_HB, Q_BX, Q_P0, Q_P4, Q_X4_⟩
    refine steps_cons ?_ ?_
    · rintro b a w' ⟨A4, c4, m4_, ha, Q_HB, Q_BX, Q_P0, Q_P4, Q_X4_⟩ hb_ hon hoff
      refine ⟨_, rfl, fun K hK => ?_⟩
      have e29 : a.tmps[29]? = some (.string (strOfNums l)) := by rw [ha]; exact putSel_on (e := (5, 29, .string (strOfNums l))) 5 rfl rfl (hon 5 (by kernel_rfl)) rfl
      have e31 : a.tmps[31]? = some (.string (strOfNums l)) := by rw [ha]; exact putSel_on (e := (7, 31, .string (strOfNums l))) 7 rfl rfl (hon 7 (by kernel_rfl)) rfl
      have e26 : a.tmps[26]? = some (.bool true) := by rw [ha]; exact putSel_on (e := (2, 26, .bool true)) 2 rfl rfl (hon 2 (by kernel_rfl)) rfl
      replace ha := Aside0.mk ha
      have HB := Aside0.mk Q_HB
      have BX := Aside0.mk Q_BX
      have P0 := Aside0.mk Q_P0
      have P4 := Aside0.mk (Q_P4 (hon 4 (by kernel_rfl)))
      refine value_ (w1 := w') (v := .bool true) (wanted_on rfl rfl rfl (e26.trans (by first | rfl | (simp [*]; done)))) rfl ?_ ?_
      · go_simp
        (try simp only [i64_w])
        try rfl
      refine hK.out _ _ ⟨A4, c4, m4_, (by rw [ha.out]; exact putSel_upk 8 hb_ rfl rfl rfl), Q_HB, Q_BX, Q_P0, Q_P4, Q_X4_⟩
    refine steps_cons ?_ ?_
    · rintro b a w' ⟨A4, c4, m4_, ha, Q_HB, Q_BX, Q_P0, Q_P4, Q_X4_⟩ hb_ hon hoff
      refine ⟨_, rfl, fun K hK => ?_⟩
      have e26 : a.tmps[26]? = some (.bool true) := by rw [ha]; exact putSel_on (e := (2, 26, .bool true)) 2 rfl rfl (hon 2 (by kernel_rfl)) rfl
      have e32 : a.tmps[32]? = some (.bool true) := by rw [ha]; exact putSel_on (e := (8, 32, .bool true)) 8 rfl rfl (hon 8 (by kernel_rfl)) rfl
      replace ha := Aside0.mk ha
      have HB := Aside0.mk Q_HB
      have BX := Aside0.mk Q_BX
      have P0 := Aside0.mk Q_P0
      have P4 := Aside0.mk (Q_P4 (hon 4 (by kernel_rfl)))
      refine value_ (w1 := w') (v := .bool true) (by rfl) rfl ?_ ?_
      · go_simp
        (try simp only [i64_w])
        try rfl
      refine hK.out _ _ ⟨A4, c4, m4_, (by rw [ha.out]; exact putSel_upk 9 hb_ rfl rfl rfl), Q_HB, Q_BX, Q_P0, Q_P4, Q_X4_⟩
    refine steps_cons ?_ ?_
    · rintro b a w' ⟨A4, c4, m4_, ha, Q_HB, Q_BX, Q_P0, Q_P4, Q_X4_⟩ hb_ hon hoff
      refine ⟨_, rfl, fun K hK => ?_⟩
      have e33 : a.tmps[33]? = some (.bool true) := by rw [ha]; exact putSel_on (e := (9, 33, .bool true)) 9 rfl rfl (hon 9 (by kernel_rfl)) rfl
      replace ha := Aside0.mk ha
      have HB := Aside0.mk Q_HB
      have BX := Aside0.mk Q_BX
      have P0 := Aside0.mk Q_P0
      have P4 := Aside0.mk (Q_P4 (hon 4 (by kernel_rfl)))
      refine value_ (w1 := w') (v := .bool true) (by rfl) rfl ?_ ?_
      · go_simp
        (try simp only [i64_w])
        try rfl
      refine hK.out _ _ ⟨A4, c4, m4_, (by rw [ha.out]; exact putSel_upk 10 hb_ rfl rfl rfl), Q_HB, Q_BX, Q_P0, Q_P4, Q_X4_⟩
    exact steps_nil
  rintro b a w' hall ⟨A4, c4, m4_, ha, Q_HB, Q_BX, Q_P0, Q_P4, Q_X4_⟩
  clear BX HB P0
  have hb0_ := hall 0 (by kernel_rfl)
  have hb1_ := hall 1 (by kernel_rfl)
  have hb2_ := hall 2 (by kernel_rfl)
  have hb3_ := hall 3 (by kernel_rfl)
  have hb4_ := hall 4 (by kernel_rfl)
  have hb5_ := hall 5 (by kernel_rfl)
  have hb6_ := hall 6 (by kernel_rfl)
  have hb7_ := hall 7 (by kernel_rfl)
  have hb8_ := hall 8 (by kernel_rfl)
  have hb9_ := hall 9 (by kernel_rfl)
  have hb10_ := hall 10 (by kernel_rfl)
  subst ha
  obtain rfl := Q_X4_ hb4_
  simp only [putSel, hb0_, hb1_, hb2_, hb3_, hb4_, hb5_, hb6_, hb7_, hb8_, hb9_, hb10_, if_true, Act.put, List.setIfInBounds_toArray, List.set_cons_zero, List.set_cons_succ]
  have HB := Aside0.mk Q_HB
  clear Q_HB
  have BX := Aside0.mk Q_BX
  clear Q_BX
  have P0 := Aside0.mk Q_P0
  clear Q_P0
  have P4 := Aside0.mk (Q_P4 hb4_)
  clear Q_P4
  clear hall hb0_ hb1_ hb2_ hb3_ hb4_ hb5_ hb6_ hb7_ hb8_ hb9_ hb10_
  go_wp2
  go_ret
  exact ⟨rfl, HB.out⟩

set_option maxHeartbeats 4000000 in
set_option maxRecDepth 100000 in
theorem none (A : Option Addr) (c : Nat) (l : List Int) (w : World) (hs : Cs w A c l) (hl : l.length ≤ 300)
    (DX : Aside0 (∀ (A : Option Addr) (c : Nat) (w : World), Cs w A c l → Calls Try.prog 33 #[.slice A l.length c] w fun e w' => e = .returned (.tuple #[zeroM.lay, .int .i64 11]) ∧ Below w.heap.size w w')) :
    Calls Try.prog 13 #[.slice A l.length c] w fun e w' => e = .returned (.bool true) ∧ Below w.heap.size w w' := by
  have t1 : decide ((300 : Int) < (l.length : Int)) = false := decide_eq_false (by omega)
  have t2 : decide (300 < l.length) = false := decide_eq_false (by omega)
  have S0 := Aside0.mk hs
  clear hs hl
  simp only [MsgV.lay, zeroM] at DX
  go_enter Try.func13, Try.ntmps13
  go_wp2_with (go_at_call 27; refine (head_ok _).mono ?_; rintro e w1 ⟨rfl, hb1⟩; have HB1 := Aside0.mk hb1; clear hb1)
  refine (DX.out A c _ (S0.out.step HB1.out)).mono ?_
  rintro e w2 ⟨rfl, hb2⟩
  have HB2 := Aside0.mk (below_step HB1.out hb2)
  clear hb2 HB1
  go_wp2
  go_ret
  exact ⟨rfl, below_alloc HB2.out _⟩

theorem big (A : Option Addr) (c : Nat) (l : List Int) (w : World) (hl : ¬ l.length ≤ 300) (hm : l.length ≤ maxLen) :
    Calls Try.prog 13 #[.slice A l.length c] w fun e w' => e = .returned (.bool true) ∧ Below w.heap.size w w' := by
  have t1 : decide ((300 : Int) < (l.length : Int)) = true := decide_eq_true (by omega)
  have t2 : decide (300 < l.length) = true := decide_eq_true (by omega)
  clear hl
  go_enter Try.func13, Try.ntmps13
  go_wp2_with (go_at_call 27; refine (head_ok _).mono ?_; rintro e w1 ⟨rfl, hb1⟩; have HB1 := Aside0.mk hb1; clear hb1)
  go_ret
  exact ⟨rfl, HB1.out⟩

theorem law_ok (A : Option Addr) (c : Nat) (l : List Int) (w : World) (hc : l.length ≤ c) (hC : Kd.C (Kd.int .u8) w A l.length l) (hw : ∀ x ∈ l, (Lit.int .u8 x).wf = true) :
    Calls Try.prog 13 #[.slice A l.length c] w fun e w' => e = .returned (.bool true) ∧ Below w.heap.size w w' := by
  by_cases hl : l.length ≤ 300
  · obtain ⟨m, f, h, D⟩ := dec_any l (Byt.of_wf hw)
    rcases h with ⟨rfl, hr, wm, he⟩ | ⟨rfl, rfl⟩
    · refine good A c l m w ⟨hc, hC⟩ hl ⟨fun w => law_true m wm hr w⟩ ⟨fun w => ?_⟩ ⟨D⟩
      have := byts_ok m wm hr w
      rw [he] at this
      exact this
    · exact none A c l w ⟨hc, hC⟩ hl ⟨D⟩
  · exact big A c l w hl hC.2.1

end Go.Proofs.Ytolcmjoapnldiaa.MsgReads
