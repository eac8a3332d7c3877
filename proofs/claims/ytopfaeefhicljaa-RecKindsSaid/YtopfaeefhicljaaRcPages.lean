/- rec.rightPages, walked. Conditions: slices no longer than memory. -/
import Derived.Test.YtopfaeefhicljaaPgPure
import Derived.Test.YtopfaeefhicljaaR0
import Derived.LoopTactic
import Derived.Test.YtopfaeefhicljaaWInv
import Derived.Test.YtopfaeefhicljaaWInvWords
import Derived.Test.YtopfaeefhicljaaWTab
import Derived.Test.YtopfaeefhicljaaWLast
import Derived.Test.YtopfaeefhicljaaGWords
namespace Go.Proofs.Ytopfaeefhicljaa.Q
open Go Go.RowKit Go.Proofs.YtopfaeefhicljaaW.PrintWords Go.Proofs.YtopfaeefhicljaaW.PrintMore Go.Proofs.YtopfaeefhicljaaW.PrintLast Go.Proofs.Ytopfaeefhicljaa.Leb Go.Proofs.Ytopfaeefhicljaa.Str
set_option linter.unusedVariables false
set_option linter.unusedSimpArgs false
theorem up_cell {w W : World} {p : Addr} {v : Value} (hb : Below w.heap.size w W) (h : w.cell? p = some v) : W.cell? p = some v := (hb.cell (World.block_lt_of_cell? _ _ h)).trans h
theorem below_step {a b c : World} (h : Below a.heap.size a b) (k : Below b.heap.size b c) : Below a.heap.size a c := h.trans (k.mono h.size)
def pgOf (x : S27) : PgV := ⟨x.f0, x.f1, x.f2, x.f3, x.f4, x.f5, x.f6, x.f7⟩
def pgsAt (l : List S52) (i : Nat) : Bool := !(((decide ((rd_T52 l i).f0 < 0) || decide (65536 ≤ (rd_T52 l i).f0)) || !(rightP (pgOf (rd_T52 l i).f1))) || (decide ((0 : Int) < i) && decide ((rd_T52 l i).f0 ≤ (rd_T52 l ((i : Int) - 1)).f0)))
def pagesB (l : List S52) : Bool := (List.range l.length).all (pgsAt l) && decide (l.length ≤ 30)
/-- Pages that fit memory. -/
def PgFit (l : List S52) : Prop := ∀ x ∈ l, x.f1.f1.length ≤ 1000000 ∧ x.f1.f2.length ≤ 1000000 ∧ x.f1.f3.length ≤ 1000000
def rcpg4.T4 : Bool × List (List Nat × List Nat) := (true, [([], []), ([0], [0]), ([1], [1]), ([2], [2]), ([3], [3]), ([4, 3], [3, 4]), ([5, 3], [3, 5]), ([3, 6], [3, 6]), ([7, 3], [7]), ([8], [8]), ([9, 8], [8, 9]), ([10, 8, 8], [8, 10]), ([11, 8], [8, 11]), ([8, 12], [8, 12]), ([13, 11], [13]), ([14], [14]), ([15, 14], [14, 15]), ([16, 14, 14], [14, 16]), ([17], [17]), ([17], [17]), ([19, 17], [17, 19]), ([18, 20, 17], [17, 18, 20]), ([21, 17], [17, 21]), ([22, 17], [17, 22]), ([17], [17]), ([24, 17], [17, 24]), ([23, 25, 17], [17, 23, 25]), ([17, 26, 14], [14, 17, 26]), ([14, 27], [14, 27])])
def rcpg4.B4 : List Nat := [0, 1, 3, 7, 15, 31, 63, 127, 255, 511, 1023, 2047, 4095, 8191, 16383, 32767, 65535, 131071, 262143, 262143, 786431, 2097151, 4194303, 8388607, 262143, 17039359, 67108863, 134217727, 268435455]
theorem rcpg4.tab4 : rtab .any (opsOf Try.f62 4) = rcpg4.T4 := by kernel_rfl
theorem rcpg4.bits4 : waitsOk rcpg4.T4.2 rcpg4.B4 = true := by kernel_rfl
set_option maxRecDepth 100000 in
set_option maxHeartbeats 4000000 in
theorem pages_ok (A : Option Addr) (c : Nat) (l : List S52) (w : World) (hC : Kd.C k52 w A l.length l) (hc : l.length ≤ c) (hf : PgFit l) :
  Calls Try.prog 62 #[.slice A l.length c] w fun e w' => e = .returned (.bool (pagesB l)) ∧ Below w.heap.size w w' := by
 have hlm := hC.2.1
 have HC := Aside0.mk hC
 have HF := Aside0.mk hf
 clear hC hf
 go_enter Try.func62, Try.ntmps62
 go_wp2
 go_loopw [7] (fun i wr => ∃ k : Nat, k ≤ l.length ∧ i = .int .i64 k ∧ Aside0 ((∀ j, j < k → pgsAt l j = true) ∧ Below w.heap.size w wr)) (fun i _ => l.length - (intOf i).toNat)
 case atStart => exact ⟨0, Nat.zero_le _, rfl, ⟨fun j hj => by omega, Below.refl _ _⟩⟩
 case round =>
  obtain ⟨k, hk, rfl, hR⟩ := hrel
  by_cases hlt : k < l.length
  ·obtain ⟨ad, B1, b1, B2, b2, B3, b3, hA, z0, z1, z2, z3, z4, z5, z6, z7, z8, l1, g1, l2, g2, l3, g3⟩ := at_T52 HC.out (k : Int) (by omega) (by omega)
   subst hA
   rw [Int.toNat_natCast] at z0 z1 z2 z3 z4 z5 z6 z7 z8
   have HY := Aside0.mk (show 1 ≤ k → w.cell? (ad.add ((k - 1) * 9)) = some (.int .i64 (rd_T52 l ((k : Int) - 1)).f0) from fun hk1 => by
    obtain ⟨ad', _, _, _, _, _, _, hA', y0, _⟩ := at_T52 HC.out ((k : Int) - 1) (by omega) (by omega)
    injection hA' with hA'
    rw [hA', show ((k : Int) - 1).toNat = k - 1 by omega] at *
    exact y0)
   have hx2 : (rd_T52 l (k : Int)) ∈ l := by unfold rd_T52; rw [Int.toNat_natCast]; simp [List.getD_eq_getElem?_getD, List.getElem?_eq_getElem hlt]
   have hfit := HF.out _ hx2
   have HAT := Aside0.mk (show pgsAt l k = pgsAt l k from rfl)
   obtain ⟨y, hy⟩ : ∃ y, y = (rd_T52 l ((k : Int) - 1)).f0 := ⟨_, rfl⟩
   obtain ⟨x, hx⟩ : ∃ x, x = rd_T52 l (k : Int) := ⟨_, rfl⟩
   rw [← hy] at HY
   rw [← hx] at z0 z1 z2 z3 z4 z5 z6 z7 z8 l1 g1 l2 g2 l3 g3 hfit
   obtain ⟨c0, hc0⟩ : ∃ b, decide (x.f0 < 0) = b := ⟨_, rfl⟩
   obtain ⟨c1, hc1⟩ : ∃ b, decide (65536 ≤ x.f0) = b := ⟨_, rfl⟩
   obtain ⟨rt, hrt⟩ : ∃ b, rightP (pgOf x.f1) = b := ⟨_, rfl⟩
   obtain ⟨c2, hc2⟩ : ∃ b, (!rt) = b := ⟨_, rfl⟩
   obtain ⟨q0, hq0⟩ : ∃ b, decide ((0 : Int) < (k : Int)) = b := ⟨_, rfl⟩
   obtain ⟨c3, hc3⟩ : ∃ b, decide (x.f0 ≤ y) = b := ⟨_, rfl⟩
   obtain ⟨p1, hp1⟩ : ∃ b, b = (c0 || c1) := ⟨_, rfl⟩
   obtain ⟨p2, hp2⟩ : ∃ b, b = (p1 || c2) := ⟨_, rfl⟩
   obtain ⟨c4, hc4⟩ : ∃ b, b = (q0 && c3) := ⟨_, rfl⟩
   obtain ⟨p3, hp3⟩ : ∃ b, b = (p2 || c4) := ⟨_, rfl⟩
   have HLAST := Aside0.mk (show pgsAt l k = !p3 by unfold pgsAt; rw [hp3, hp2, hp1, hc4, ← hc2, ← hrt, ← hc0, ← hc1, ← hq0, ← hc3, hx, hy])
   have HC0 := Aside0.mk hc0
   have HC1q := Aside0.mk hc1
   have HC2q := Aside0.mk hc2
   have HQ0 := Aside0.mk hq0
   have HC3q := Aside0.mk hc3
   have HP1 := Aside0.mk hp1
   have HP2 := Aside0.mk hp2
   have HP3 := Aside0.mk hp3
   have HP4 := Aside0.mk hc4
   have HRT := Aside0.mk (show page_Page_Right.f 1000001 x.f1.f0 x.f1.f1 x.f1.f2 x.f1.f3 x.f1.f4 x.f1.f5 x.f1.f6 x.f1.f7 = some rt by rw [← hrt]; exact pright_f 1000001 (pgOf x.f1) (by have := hfit.1; show x.f1.f1.length < _; omega) (by have := hfit.1; show x.f1.f1.length < _; omega) (by have := hfit.2.1; show x.f1.f2.length < _; omega) (by have := hfit.2.2; show x.f1.f3.length < _; omega))
   have HC1 := Aside0.mk g1
   have HC2 := Aside0.mk g2
   have HC3 := Aside0.mk g3
   have HC1b := Aside0.mk l1
   have HC2b := Aside0.mk l2
   have HC3b := Aside0.mk l3
   have y0 := up_cell hR.out.2 z0
   have y1 := up_cell hR.out.2 z1
   have y2 := up_cell hR.out.2 z2
   have y3 := up_cell hR.out.2 z3
   have y4 := up_cell hR.out.2 z4
   have y5 := up_cell hR.out.2 z5
   have y6 := up_cell hR.out.2 z6
   have y7 := up_cell hR.out.2 z7
   have y8 := up_cell hR.out.2 z8
   clear hx hy hx2 hfit hc0 hc1 hrt hc2 hq0 hc3 hp1 hp2 hc4 hp3 g1 g2 g3 l1 l2 l3 z0 z1 z2 z3 z4 z5 z6 z7 z8 HAT
   go_upto_region 4 with fail
   clear y0 y1 y2 y3 y4 y5 y6 y7 y8
   obtain ⟨KB, hKB⟩ : ∃ x : Nat, x = wr.heap.size := ⟨_, rfl⟩
   have BX := Aside0.mk (blk_new wr (.cells #[.int .i64 x.f0, .int .i64 x.f1.f0, .slice B1 x.f1.f1.length b1, .slice B2 x.f1.f2.length b2, .slice B3 x.f1.f3.length b3, .int .i64 x.f1.f4, .int .i64 x.f1.f5, .int .i64 x.f1.f6, .int .i64 x.f1.f7] 52 (0, 0)))
   have HB := Aside0.mk (below_alloc hR.out.2 (.cells #[.int .i64 x.f0, .int .i64 x.f1.f0, .slice B1 x.f1.f1.length b1, .slice B2 x.f1.f2.length b2, .slice B3 x.f1.f3.length b3, .int .i64 x.f1.f4, .int .i64 x.f1.f5, .int .i64 x.f1.f6, .int .i64 x.f1.f7] 52 (0, 0)))
   have HALL := Aside0.mk hR.out.1
   rw [← hKB] at BX ⊢
   generalize wr.alloc _ = wx at BX HB ⊢
   clear hKB hR
   refine start_ (n := 29) (S := fun w' => True) (ds := []) #[false, false, false, false, false, false, false, false, false, false, false, false, false, false, false, false, false, false, false, false, false, false, false, false, false, false, false, false, false] (by kernel_rfl) rfl rfl trivial (fun hHeld => ?_)
   refine with_tabW rcpg4.tab4 rcpg4.bits4 (fun HT_ HW_ => ?_)
   have n0_ := Aside0.mk (below_drew HB.out)
   have n1_ := Aside0.mk (blk_drew BX.out)
   clear HB BX
   generalize World.drew _ = wd at n0_ n1_ hHeld ⊢
   have HB := n0_
   have BX := n1_
   clear hHeld n0_ n1_
   refine inv_at [0, 1, 2, 3, 4, 5, 6, 7, 8, 9, 10, 11, 12, 13, 14, 15, 16, 17, 18, 19, 20, 21, 22, 23, 24, 25, 26, 27, 28] (fun a0_ b a w' => a = putSel a0_ b [(0, 12, .pointer (some ⟨KB, 0, none⟩)), (1, 13, .int .i64 x.f0), (2, 14, .bool c0), (3, 15, .bool c0), (4, 16, (cond c0 undef (.pointer (some ⟨KB, 0, none⟩)))), (5, 17, (cond c0 undef (.int .i64 x.f0))), (6, 18, (cond c0 undef (.bool c1))), (7, 19, .bool p1), (8, 20, .bool p1), (9, 21, (cond p1 undef (.pointer (some ⟨KB, 1, none⟩)))), (10, 22, (cond p1 undef (.agg #[.int .i64 x.f1.f0, .slice B1 x.f1.f1.length b1, .slice B2 x.f1.f2.length b2, .slice B3 x.f1.f3.length b3, .int .i64 x.f1.f4, .int .i64 x.f1.f5, .int .i64 x.f1.f6, .int .i64 x.f1.f7]))), (11, 23, (cond p1 undef (.bool rt))), (12, 24, (cond p1 undef (.bool c2))), (13, 25, .bool p2), (14, 26, .bool p2), (15, 27, (cond p2 undef (.int .i64 (k : Int)))), (16, 28, (cond p2 undef (.bool q0))), (17, 29, (cond p2 undef (.bool q0))), (18, 30, (cond p2 undef ((cond q0 (.slice (some ad) l.length c) undef)))), (19, 31, (cond p2 undef ((cond q0 (.int .i64 (k : Int)) undef)))), (20, 32, (cond p2 undef ((cond q0 (.int .i64 ((k : Int) - 1)) undef)))), (21, 33, (cond p2 undef ((cond q0 (.pointer (some (ad.add ((k - 1) * 9)))) undef)))), (22, 34, (cond p2 undef ((cond q0 (.pointer (some (ad.add ((k - 1) * 9)))) undef)))), (23, 35, (cond p2 undef ((cond q0 (.int .i64 y) undef)))), (24, 36, (cond p2 undef ((cond q0 (.pointer (some ⟨KB, 0, none⟩)) undef)))), (25, 37, (cond p2 undef ((cond q0 (.int .i64 x.f0) undef)))), (26, 38, (cond p2 undef ((cond q0 (.bool c3) undef)))), (27, 39, (cond p2 undef (.bool c4))), (28, 40, .bool p3)] ∧ (Below w.heap.size w w') ∧ (w'.heap[KB]? = some (.cells #[.int .i64 x.f0, .int .i64 x.f1.f0, .slice B1 x.f1.f1.length b1, .slice B2 x.f1.f2.length b2, .slice B3 x.f1.f3.length b3, .int .i64 x.f1.f4, .int .i64 x.f1.f5, .int .i64 x.f1.f6, .int .i64 x.f1.f7] 52 (0, 0)))) HT_.out HW_.out (by kernel_rfl) (by kernel_rfl) ?_ ?_ ?_
   ·exact ⟨by simp only [putSel, Bool.false_eq_true, if_false], HB.out, BX.out⟩
   ·skip
    clear BX HB
    refine steps_cons ?_ ?_
    ·rintro b a w' ⟨ha, Q_HB, Q_BX⟩ hb_ hon hoff
     refine ⟨_, rfl, fun K hK => ?_⟩
     have e4 : a.tmps[4]? = some (.pointer (some ⟨KB, 0, none⟩)) := by rw [ha]; exact (putSel_off rfl).trans rfl
     replace ha := Aside0.mk ha
     have HB := Aside0.mk Q_HB
     have BX := Aside0.mk Q_BX
     refine value_ (w1 := w') (v := .pointer (some ⟨KB, 0, none⟩)) (by rfl) rfl ?_ ?_
     ·go_simp
      (try simp only [i64_w])
      try rfl
     refine hK.out _ _ ⟨(by rw [ha.out]; exact putSel_upk 0 hb_ rfl rfl rfl), Q_HB, Q_BX⟩
    refine steps_cons ?_ ?_
    ·rintro b a w' ⟨ha, Q_HB, Q_BX⟩ hb_ hon hoff
     refine ⟨_, rfl, fun K hK => ?_⟩
     have e12 : a.tmps[12]? = some (.pointer (some ⟨KB, 0, none⟩)) := by rw [ha]; exact putSel_on (e := (0, 12, .pointer (some ⟨KB, 0, none⟩))) 0 rfl rfl (hon 0 (by kernel_rfl)) rfl
     replace ha := Aside0.mk ha
     have HB := Aside0.mk Q_HB
     have BX := Aside0.mk Q_BX
     have hc0_ : w'.cell? ⟨KB, 0, none⟩ = some (.int .i64 x.f0) := (blk_cell BX.out 0).trans rfl
     refine value_ (w1 := w') (v := .int .i64 x.f0) (by rfl) rfl ?_ ?_
     ·go_simp
      (try simp only [i64_w])
      try rfl
     refine hK.out _ _ ⟨(by rw [ha.out]; exact putSel_upk 1 hb_ rfl rfl rfl), Q_HB, Q_BX⟩
    refine steps_cons ?_ ?_
    ·rintro b a w' ⟨ha, Q_HB, Q_BX⟩ hb_ hon hoff
     refine ⟨_, rfl, fun K hK => ?_⟩
     have e13 : a.tmps[13]? = some (.int .i64 x.f0) := by rw [ha]; exact putSel_on (e := (1, 13, .int .i64 x.f0)) 1 rfl rfl (hon 1 (by kernel_rfl)) rfl
     replace ha := Aside0.mk ha
     have HB := Aside0.mk Q_HB
     have BX := Aside0.mk Q_BX
     have hq_ := HC0.out
     refine value_ (w1 := w') (v := .bool c0) (by rfl) rfl ?_ ?_
     ·go_simp
      (try simp only [i64_w])
      try rfl
     refine hK.out _ _ ⟨(by rw [ha.out]; exact putSel_upk 2 hb_ rfl rfl rfl), Q_HB, Q_BX⟩
    refine steps_cons ?_ ?_
    ·rintro b a w' ⟨ha, Q_HB, Q_BX⟩ hb_ hon hoff
     refine ⟨_, rfl, fun K hK => ?_⟩
     have e14 : a.tmps[14]? = some (.bool c0) := by rw [ha]; exact putSel_on (e := (2, 14, .bool c0)) 2 rfl rfl (hon 2 (by kernel_rfl)) rfl
     replace ha := Aside0.mk ha
     have HB := Aside0.mk Q_HB
     have BX := Aside0.mk Q_BX
     refine value_ (w1 := w') (v := .bool c0) (by rfl) rfl ?_ ?_
     ·go_simp
      (try simp only [i64_w])
      try rfl
     refine hK.out _ _ ⟨(by rw [ha.out]; exact putSel_upk 3 hb_ rfl rfl rfl), Q_HB, Q_BX⟩
    refine steps_cons ?_ ?_
    ·rintro b a w' ⟨ha, Q_HB, Q_BX⟩ hb_ hon hoff
     cases c0 with
     | true =>
      refine ⟨_, rfl, fun K hK => ?_⟩
      have e15 : a.tmps[15]? = some (.bool true) := by rw [ha]; exact putSel_on (e := (3, 15, .bool true)) 3 rfl rfl (hon 3 (by kernel_rfl)) rfl
      replace ha := Aside0.mk ha
      refine off_ (wanted_off rfl rfl rfl (e15.trans (by first | rfl | (simp [*]; done)))) ?_
      refine hK.out _ _ ⟨(by rw [ha.out]; exact putSel_upk 4 hb_ rfl rfl rfl), Q_HB, Q_BX⟩
     | false =>
      refine ⟨_, rfl, fun K hK => ?_⟩
      have e4 : a.tmps[4]? = some (.pointer (some ⟨KB, 0, none⟩)) := by rw [ha]; exact (putSel_off rfl).trans rfl
      have e15 : a.tmps[15]? = some (.bool false) := by rw [ha]; exact putSel_on (e := (3, 15, .bool false)) 3 rfl rfl (hon 3 (by kernel_rfl)) rfl
      replace ha := Aside0.mk ha
      have HB := Aside0.mk Q_HB
      have BX := Aside0.mk Q_BX
      refine value_ (w1 := w') (v := .pointer (some ⟨KB, 0, none⟩)) (wanted_on rfl rfl rfl (e15.trans (by first | rfl | (simp [*]; done)))) rfl ?_ ?_
      ·go_simp
       (try simp only [i64_w])
       try rfl
      refine hK.out _ _ ⟨(by rw [ha.out]; exact putSel_upk 4 hb_ rfl rfl rfl), Q_HB, Q_BX⟩
    refine steps_cons ?_ ?_
    ·rintro b a w' ⟨ha, Q_HB, Q_BX⟩ hb_ hon hoff
     cases c0 with
     | true =>
      refine ⟨_, rfl, fun K hK => ?_⟩
      have e15 : a.tmps[15]? = some (.bool true) := by rw [ha]; exact putSel_on (e := (3, 15, .bool true)) 3 rfl rfl (hon 3 (by kernel_rfl)) rfl
      replace ha := Aside0.mk ha
      refine off_ (wanted_off rfl rfl rfl (e15.trans (by first | rfl | (simp [*]; done)))) ?_
      refine hK.out _ _ ⟨(by rw [ha.out]; exact putSel_upk 5 hb_ rfl rfl rfl), Q_HB, Q_BX⟩
     | false =>
      refine ⟨_, rfl, fun K hK => ?_⟩
      have e16 : a.tmps[16]? = some (.pointer (some ⟨KB, 0, none⟩)) := by rw [ha]; exact putSel_on (e := (4, 16, .pointer (some ⟨KB, 0, none⟩))) 4 rfl rfl (hon 4 (by kernel_rfl)) rfl
      have e15 : a.tmps[15]? = some (.bool false) := by rw [ha]; exact putSel_on (e := (3, 15, .bool false)) 3 rfl rfl (hon 3 (by kernel_rfl)) rfl
      replace ha := Aside0.mk ha
      have HB := Aside0.mk Q_HB
      have BX := Aside0.mk Q_BX
      have hc0_ : w'.cell? ⟨KB, 0, none⟩ = some (.int .i64 x.f0) := (blk_cell BX.out 0).trans rfl
      refine value_ (w1 := w') (v := .int .i64 x.f0) (wanted_on rfl rfl rfl (e15.trans (by first | rfl | (simp [*]; done)))) rfl ?_ ?_
      ·go_simp
       (try simp only [i64_w])
       try rfl
      refine hK.out _ _ ⟨(by rw [ha.out]; exact putSel_upk 5 hb_ rfl rfl rfl), Q_HB, Q_BX⟩
    refine steps_cons ?_ ?_
    ·rintro b a w' ⟨ha, Q_HB, Q_BX⟩ hb_ hon hoff
     cases c0 with
     | true =>
      refine ⟨_, rfl, fun K hK => ?_⟩
      have e15 : a.tmps[15]? = some (.bool true) := by rw [ha]; exact putSel_on (e := (3, 15, .bool true)) 3 rfl rfl (hon 3 (by kernel_rfl)) rfl
      replace ha := Aside0.mk ha
      refine off_ (wanted_off rfl rfl rfl (e15.trans (by first | rfl | (simp [*]; done)))) ?_
      refine hK.out _ _ ⟨(by rw [ha.out]; exact putSel_upk 6 hb_ rfl rfl rfl), Q_HB, Q_BX⟩
     | false =>
      refine ⟨_, rfl, fun K hK => ?_⟩
      have e17 : a.tmps[17]? = some (.int .i64 x.f0) := by rw [ha]; exact putSel_on (e := (5, 17, .int .i64 x.f0)) 5 rfl rfl (hon 5 (by kernel_rfl)) rfl
      have e15 : a.tmps[15]? = some (.bool false) := by rw [ha]; exact putSel_on (e := (3, 15, .bool false)) 3 rfl rfl (hon 3 (by kernel_rfl)) rfl
      replace ha := Aside0.mk ha
      have HB := Aside0.mk Q_HB
      have BX := Aside0.mk Q_BX
      have hq_ := HC1q.out
      refine value_ (w1 := w') (v := .bool c1) (wanted_on rfl rfl rfl (e15.trans (by first | rfl | (simp [*]; done)))) rfl ?_ ?_
      ·go_simp
       (try simp only [i64_w])
       try rfl
      refine hK.out _ _ ⟨(by rw [ha.out]; exact putSel_upk 6 hb_ rfl rfl rfl), Q_HB, Q_BX⟩
    refine steps_cons ?_ ?_
    ·rintro b a w' ⟨ha, Q_HB, Q_BX⟩ hb_ hon hoff
     cases c0 with
     | true =>
      obtain rfl : true = p1 := HP1.out.symm
      refine ⟨_, rfl, fun K hK => ?_⟩
      have e15 : a.tmps[15]? = some (.bool true) := by rw [ha]; exact putSel_on (e := (3, 15, .bool true)) 3 rfl rfl (hon 3 (by kernel_rfl)) rfl
      have e18 : a.tmps[18]? = some (undef) := by rw [ha]; exact putSel_on (e := (6, 18, undef)) 6 rfl rfl (hon 6 (by kernel_rfl)) rfl
      replace ha := Aside0.mk ha
      have HB := Aside0.mk Q_HB
      have BX := Aside0.mk Q_BX
      refine value_ (w1 := w') (v := .bool true) (by rfl) rfl ?_ ?_
      ·go_simp
       (try simp only [i64_w])
       try rfl
      refine hK.out _ _ ⟨(by rw [ha.out]; exact putSel_upk 7 hb_ rfl rfl rfl), Q_HB, Q_BX⟩
     | false =>
      obtain rfl : c1 = p1 := HP1.out.symm
      refine ⟨_, rfl, fun K hK => ?_⟩
      have e15 : a.tmps[15]? = some (.bool false) := by rw [ha]; exact putSel_on (e := (3, 15, .bool false)) 3 rfl rfl (hon 3 (by kernel_rfl)) rfl
      have e18 : a.tmps[18]? = some (.bool c1) := by rw [ha]; exact putSel_on (e := (6, 18, .bool c1)) 6 rfl rfl (hon 6 (by kernel_rfl)) rfl
      replace ha := Aside0.mk ha
      have HB := Aside0.mk Q_HB
      have BX := Aside0.mk Q_BX
      refine value_ (w1 := w') (v := .bool c1) (by rfl) rfl ?_ ?_
      ·go_simp
       (try simp only [i64_w])
       try rfl
      refine hK.out _ _ ⟨(by rw [ha.out]; exact putSel_upk 7 hb_ rfl rfl rfl), Q_HB, Q_BX⟩
    refine steps_cons ?_ ?_
    ·rintro b a w' ⟨ha, Q_HB, Q_BX⟩ hb_ hon hoff
     refine ⟨_, rfl, fun K hK => ?_⟩
     have e19 : a.tmps[19]? = some (.bool p1) := by rw [ha]; exact putSel_on (e := (7, 19, .bool p1)) 7 rfl rfl (hon 7 (by kernel_rfl)) rfl
     replace ha := Aside0.mk ha
     have HB := Aside0.mk Q_HB
     have BX := Aside0.mk Q_BX
     refine value_ (w1 := w') (v := .bool p1) (by rfl) rfl ?_ ?_
     ·go_simp
      (try simp only [i64_w])
      try rfl
     refine hK.out _ _ ⟨(by rw [ha.out]; exact putSel_upk 8 hb_ rfl rfl rfl), Q_HB, Q_BX⟩
    refine steps_cons ?_ ?_
    ·rintro b a w' ⟨ha, Q_HB, Q_BX⟩ hb_ hon hoff
     cases p1 with
     | true =>
      refine ⟨_, rfl, fun K hK => ?_⟩
      have e20 : a.tmps[20]? = some (.bool true) := by rw [ha]; exact putSel_on (e := (8, 20, .bool true)) 8 rfl rfl (hon 8 (by kernel_rfl)) rfl
      replace ha := Aside0.mk ha
      refine off_ (wanted_off rfl rfl rfl (e20.trans (by first | rfl | (simp [*]; done)))) ?_
      refine hK.out _ _ ⟨(by rw [ha.out]; exact putSel_upk 9 hb_ rfl rfl rfl), Q_HB, Q_BX⟩
     | false =>
      refine ⟨_, rfl, fun K hK => ?_⟩
      have e4 : a.tmps[4]? = some (.pointer (some ⟨KB, 0, none⟩)) := by rw [ha]; exact (putSel_off rfl).trans rfl
      have e20 : a.tmps[20]? = some (.bool false) := by rw [ha]; exact putSel_on (e := (8, 20, .bool false)) 8 rfl rfl (hon 8 (by kernel_rfl)) rfl
      replace ha := Aside0.mk ha
      have HB := Aside0.mk Q_HB
      have BX := Aside0.mk Q_BX
      refine value_ (w1 := w') (v := .pointer (some ⟨KB, 1, none⟩)) (wanted_on rfl rfl rfl (e20.trans (by first | rfl | (simp [*]; done)))) rfl ?_ ?_
      ·go_simp
       (try simp only [i64_w])
       try rfl
      refine hK.out _ _ ⟨(by rw [ha.out]; exact putSel_upk 9 hb_ rfl rfl rfl), Q_HB, Q_BX⟩
    refine steps_cons ?_ ?_
    ·rintro b a w' ⟨ha, Q_HB, Q_BX⟩ hb_ hon hoff
     cases p1 with
     | true =>
      refine ⟨_, rfl, fun K hK => ?_⟩
      have e20 : a.tmps[20]? = some (.bool true) := by rw [ha]; exact putSel_on (e := (8, 20, .bool true)) 8 rfl rfl (hon 8 (by kernel_rfl)) rfl
      replace ha := Aside0.mk ha
      refine off_ (wanted_off rfl rfl rfl (e20.trans (by first | rfl | (simp [*]; done)))) ?_
      refine hK.out _ _ ⟨(by rw [ha.out]; exact putSel_upk 10 hb_ rfl rfl rfl), Q_HB, Q_BX⟩
     | false =>
      refine ⟨_, rfl, fun K hK => ?_⟩
      have e21 : a.tmps[21]? = some (.pointer (some ⟨KB, 1, none⟩)) := by rw [ha]; exact putSel_on (e := (9, 21, .pointer (some ⟨KB, 1, none⟩))) 9 rfl rfl (hon 9 (by kernel_rfl)) rfl
      have e20 : a.tmps[20]? = some (.bool false) := by rw [ha]; exact putSel_on (e := (8, 20, .bool false)) 8 rfl rfl (hon 8 (by kernel_rfl)) rfl
      replace ha := Aside0.mk ha
      have HB := Aside0.mk Q_HB
      have BX := Aside0.mk Q_BX
      have hc1_ : w'.cell? ⟨KB, 1, none⟩ = some (.int .i64 x.f1.f0) := (blk_cell BX.out 1).trans rfl
      have hc2_ : w'.cell? ⟨KB, 2, none⟩ = some (.slice B1 x.f1.f1.length b1) := (blk_cell BX.out 2).trans rfl
      have hc3_ : w'.cell? ⟨KB, 3, none⟩ = some (.slice B2 x.f1.f2.length b2) := (blk_cell BX.out 3).trans rfl
      have hc4_ : w'.cell? ⟨KB, 4, none⟩ = some (.slice B3 x.f1.f3.length b3) := (blk_cell BX.out 4).trans rfl
      have hc5_ : w'.cell? ⟨KB, 5, none⟩ = some (.int .i64 x.f1.f4) := (blk_cell BX.out 5).trans rfl
      have hc6_ : w'.cell? ⟨KB, 6, none⟩ = some (.int .i64 x.f1.f5) := (blk_cell BX.out 6).trans rfl
      have hc7_ : w'.cell? ⟨KB, 7, none⟩ = some (.int .i64 x.f1.f6) := (blk_cell BX.out 7).trans rfl
      have hc8_ : w'.cell? ⟨KB, 8, none⟩ = some (.int .i64 x.f1.f7) := (blk_cell BX.out 8).trans rfl
      refine value_ (w1 := w') (v := .agg #[.int .i64 x.f1.f0, .slice B1 x.f1.f1.length b1, .slice B2 x.f1.f2.length b2, .slice B3 x.f1.f3.length b3, .int .i64 x.f1.f4, .int .i64 x.f1.f5, .int .i64 x.f1.f6, .int .i64 x.f1.f7]) (wanted_on rfl rfl rfl (e20.trans (by first | rfl | (simp [*]; done)))) rfl ?_ ?_
      ·go_simp
       (try simp only [i64_w])
       try rfl
      refine hK.out _ _ ⟨(by rw [ha.out]; exact putSel_upk 10 hb_ rfl rfl rfl), Q_HB, Q_BX⟩
    refine steps_cons ?_ ?_
    ·rintro b a w' ⟨ha, Q_HB, Q_BX⟩ hb_ hon hoff
     cases p1 with
     | true =>
      refine ⟨_, rfl, fun K hK => ?_⟩
      have e20 : a.tmps[20]? = some (.bool true) := by rw [ha]; exact putSel_on (e := (8, 20, .bool true)) 8 rfl rfl (hon 8 (by kernel_rfl)) rfl
      replace ha := Aside0.mk ha
      refine off_ (wanted_off rfl rfl rfl (e20.trans (by first | rfl | (simp [*]; done)))) ?_
      refine hK.out _ _ ⟨(by rw [ha.out]; exact putSel_upk 11 hb_ rfl rfl rfl), Q_HB, Q_BX⟩
     | false =>
      refine ⟨_, rfl, fun K hK => ?_⟩
      have e22 : a.tmps[22]? = some (.agg #[.int .i64 x.f1.f0, .slice B1 x.f1.f1.length b1, .slice B2 x.f1.f2.length b2, .slice B3 x.f1.f3.length b3, .int .i64 x.f1.f4, .int .i64 x.f1.f5, .int .i64 x.f1.f6, .int .i64 x.f1.f7]) := by rw [ha]; exact putSel_on (e := (10, 22, .agg #[.int .i64 x.f1.f0, .slice B1 x.f1.f1.length b1, .slice B2 x.f1.f2.length b2, .slice B3 x.f1.f3.length b3, .int .i64 x.f1.f4, .int .i64 x.f1.f5, .int .i64 x.f1.f6, .int .i64 x.f1.f7])) 10 rfl rfl (hon 10 (by kernel_rfl)) rfl
      have e20 : a.tmps[20]? = some (.bool false) := by rw [ha]; exact putSel_on (e := (8, 20, .bool false)) 8 rfl rfl (hon 8 (by kernel_rfl)) rfl
      replace ha := Aside0.mk ha
      have HB := Aside0.mk Q_HB
      have BX := Aside0.mk Q_BX
      refine goes_ Try.func17 (by kernel_rfl) rfl #[.agg #[.int .i64 x.f1.f0, .slice B1 x.f1.f1.length b1, .slice B2 x.f1.f2.length b2, .slice B3 x.f1.f3.length b3, .int .i64 x.f1.f4, .int .i64 x.f1.f5, .int .i64 x.f1.f6, .int .i64 x.f1.f7]] (wanted_on rfl rfl rfl (e20.trans (by first | rfl | (simp [*]; done)))) rfl rfl (by first | (simp only [List.map_toArray, List.map_cons, List.map_nil, Act.eval, Array.getD_eq_getD_getElem?, Option.getD_some, e22, e20]; done) | (simp only [List.map_toArray, List.map_cons, List.map_nil, Act.eval, Array.getD_eq_getD_getElem?, Option.getD_some, e22, e20]; rfl)) ?_
      refine (page_Page_Right.calls 1000001 x.f1.f0 B1 b1 x.f1.f1 B2 b2 x.f1.f2 B3 b3 x.f1.f3 x.f1.f4 x.f1.f5 x.f1.f6 x.f1.f7 rt w' (Kd.C_below HC1.out HB.out) HC1b.out (Kd.C_below HC2.out HB.out) HC2b.out (Kd.C_below HC3.out HB.out) HC3b.out HRT.out).mono ?_
      rintro e_ wn_ ⟨rfl, hb2_⟩
      refine ⟨_, rfl, ?_⟩
      refine hK.out _ _ ⟨(by rw [ha.out]; exact putSel_upk 11 hb_ rfl rfl rfl), (below_step HB.out hb2_), ((hb2_.block KB (blk_lt BX.out)).trans BX.out)⟩
    refine steps_cons ?_ ?_
    ·rintro b a w' ⟨ha, Q_HB, Q_BX⟩ hb_ hon hoff
     cases p1 with
     | true =>
      refine ⟨_, rfl, fun K hK => ?_⟩
      have e20 : a.tmps[20]? = some (.bool true) := by rw [ha]; exact putSel_on (e := (8, 20, .bool true)) 8 rfl rfl (hon 8 (by kernel_rfl)) rfl
      replace ha := Aside0.mk ha
      refine off_ (wanted_off rfl rfl rfl (e20.trans (by first | rfl | (simp [*]; done)))) ?_
      refine hK.out _ _ ⟨(by rw [ha.out]; exact putSel_upk 12 hb_ rfl rfl rfl), Q_HB, Q_BX⟩
     | false =>
      refine ⟨_, rfl, fun K hK => ?_⟩
      have e23 : a.tmps[23]? = some (.bool rt) := by rw [ha]; exact putSel_on (e := (11, 23, .bool rt)) 11 rfl rfl (hon 11 (by kernel_rfl)) rfl
      have e20 : a.tmps[20]? = some (.bool false) := by rw [ha]; exact putSel_on (e := (8, 20, .bool false)) 8 rfl rfl (hon 8 (by kernel_rfl)) rfl
      replace ha := Aside0.mk ha
      have HB := Aside0.mk Q_HB
      have BX := Aside0.mk Q_BX
      have hq_ := HC2q.out
      refine value_ (w1 := w') (v := .bool c2) (wanted_on rfl rfl rfl (e20.trans (by first | rfl | (simp [*]; done)))) rfl ?_ ?_
      ·go_simp
       (try simp only [i64_w])
       try rfl
      refine hK.out _ _ ⟨(by rw [ha.out]; exact putSel_upk 12 hb_ rfl rfl rfl), Q_HB, Q_BX⟩
    refine steps_cons ?_ ?_
    ·rintro b a w' ⟨ha, Q_HB, Q_BX⟩ hb_ hon hoff
     cases p1 with
     | true =>
      obtain rfl : true = p2 := HP2.out.symm
      refine ⟨_, rfl, fun K hK => ?_⟩
      have e20 : a.tmps[20]? = some (.bool true) := by rw [ha]; exact putSel_on (e := (8, 20, .bool true)) 8 rfl rfl (hon 8 (by kernel_rfl)) rfl
      have e24 : a.tmps[24]? = some (undef) := by rw [ha]; exact putSel_on (e := (12, 24, undef)) 12 rfl rfl (hon 12 (by kernel_rfl)) rfl
      replace ha := Aside0.mk ha
      have HB := Aside0.mk Q_HB
      have BX := Aside0.mk Q_BX
      refine value_ (w1 := w') (v := .bool true) (by rfl) rfl ?_ ?_
      ·go_simp
       (try simp only [i64_w])
       try rfl
      refine hK.out _ _ ⟨(by rw [ha.out]; exact putSel_upk 13 hb_ rfl rfl rfl), Q_HB, Q_BX⟩
     | false =>
      obtain rfl : c2 = p2 := HP2.out.symm
      refine ⟨_, rfl, fun K hK => ?_⟩
      have e20 : a.tmps[20]? = some (.bool false) := by rw [ha]; exact putSel_on (e := (8, 20, .bool false)) 8 rfl rfl (hon 8 (by kernel_rfl)) rfl
      have e24 : a.tmps[24]? = some (.bool c2) := by rw [ha]; exact putSel_on (e := (12, 24, .bool c2)) 12 rfl rfl (hon 12 (by kernel_rfl)) rfl
      replace ha := Aside0.mk ha
      have HB := Aside0.mk Q_HB
      have BX := Aside0.mk Q_BX
      refine value_ (w1 := w') (v := .bool c2) (by rfl) rfl ?_ ?_
      ·go_simp
       (try simp only [i64_w])
       try rfl
      refine hK.out _ _ ⟨(by rw [ha.out]; exact putSel_upk 13 hb_ rfl rfl rfl), Q_HB, Q_BX⟩
    refine steps_cons ?_ ?_
    ·rintro b a w' ⟨ha, Q_HB, Q_BX⟩ hb_ hon hoff
     refine ⟨_, rfl, fun K hK => ?_⟩
     have e25 : a.tmps[25]? = some (.bool p2) := by rw [ha]; exact putSel_on (e := (13, 25, .bool p2)) 13 rfl rfl (hon 13 (by kernel_rfl)) rfl
     replace ha := Aside0.mk ha
     have HB := Aside0.mk Q_HB
     have BX := Aside0.mk Q_BX
     refine value_ (w1 := w') (v := .bool p2) (by rfl) rfl ?_ ?_
     ·go_simp
      (try simp only [i64_w])
      try rfl
     refine hK.out _ _ ⟨(by rw [ha.out]; exact putSel_upk 14 hb_ rfl rfl rfl), Q_HB, Q_BX⟩
    refine steps_cons ?_ ?_
    ·rintro b a w' ⟨ha, Q_HB, Q_BX⟩ hb_ hon hoff
     cases p2 with
     | true =>
      refine ⟨_, rfl, fun K hK => ?_⟩
      have e26 : a.tmps[26]? = some (.bool true) := by rw [ha]; exact putSel_on (e := (14, 26, .bool true)) 14 rfl rfl (hon 14 (by kernel_rfl)) rfl
      replace ha := Aside0.mk ha
      refine off_ (wanted_off rfl rfl rfl (e26.trans (by first | rfl | (simp [*]; done)))) ?_
      refine hK.out _ _ ⟨(by rw [ha.out]; exact putSel_upk 15 hb_ rfl rfl rfl), Q_HB, Q_BX⟩
     | false =>
      refine ⟨_, rfl, fun K hK => ?_⟩
      have e3 : a.tmps[3]? = some (.int .i64 (k : Int)) := by rw [ha]; exact (putSel_off rfl).trans rfl
      have e26 : a.tmps[26]? = some (.bool false) := by rw [ha]; exact putSel_on (e := (14, 26, .bool false)) 14 rfl rfl (hon 14 (by kernel_rfl)) rfl
      replace ha := Aside0.mk ha
      have HB := Aside0.mk Q_HB
      have BX := Aside0.mk Q_BX
      refine value_ (w1 := w') (v := .int .i64 (k : Int)) (wanted_on rfl rfl rfl (e26.trans (by first | rfl | (simp [*]; done)))) rfl ?_ ?_
      ·go_simp
       (try simp only [i64_w])
       try rfl
      refine hK.out _ _ ⟨(by rw [ha.out]; exact putSel_upk 15 hb_ rfl rfl rfl), Q_HB, Q_BX⟩
    refine steps_cons ?_ ?_
    ·rintro b a w' ⟨ha, Q_HB, Q_BX⟩ hb_ hon hoff
     cases p2 with
     | true =>
      refine ⟨_, rfl, fun K hK => ?_⟩
      have e26 : a.tmps[26]? = some (.bool true) := by rw [ha]; exact putSel_on (e := (14, 26, .bool true)) 14 rfl rfl (hon 14 (by kernel_rfl)) rfl
      replace ha := Aside0.mk ha
      refine off_ (wanted_off rfl rfl rfl (e26.trans (by first | rfl | (simp [*]; done)))) ?_
      refine hK.out _ _ ⟨(by rw [ha.out]; exact putSel_upk 16 hb_ rfl rfl rfl), Q_HB, Q_BX⟩
     | false =>
      refine ⟨_, rfl, fun K hK => ?_⟩
      have e27 : a.tmps[27]? = some (.int .i64 (k : Int)) := by rw [ha]; exact putSel_on (e := (15, 27, .int .i64 (k : Int))) 15 rfl rfl (hon 15 (by kernel_rfl)) rfl
      have e26 : a.tmps[26]? = some (.bool false) := by rw [ha]; exact putSel_on (e := (14, 26, .bool false)) 14 rfl rfl (hon 14 (by kernel_rfl)) rfl
      replace ha := Aside0.mk ha
      have HB := Aside0.mk Q_HB
      have BX := Aside0.mk Q_BX
      have hq_ : decide (0 < k) = q0 := by rw [← HQ0.out]; simp
      refine value_ (w1 := w') (v := .bool q0) (wanted_on rfl rfl rfl (e26.trans (by first | rfl | (simp [*]; done)))) rfl ?_ ?_
      ·go_simp
       (try simp only [i64_w])
       try rfl
      refine hK.out _ _ ⟨(by rw [ha.out]; exact putSel_upk 16 hb_ rfl rfl rfl), Q_HB, Q_BX⟩
    refine steps_cons ?_ ?_
    ·rintro b a w' ⟨ha, Q_HB, Q_BX⟩ hb_ hon hoff
     cases p2 with
     | true =>
      refine ⟨_, rfl, fun K hK => ?_⟩
      have e26 : a.tmps[26]? = some (.bool true) := by rw [ha]; exact putSel_on (e := (14, 26, .bool true)) 14 rfl rfl (hon 14 (by kernel_rfl)) rfl
      replace ha := Aside0.mk ha
      refine off_ (wanted_off rfl rfl rfl (e26.trans (by first | rfl | (simp [*]; done)))) ?_
      refine hK.out _ _ ⟨(by rw [ha.out]; exact putSel_upk 17 hb_ rfl rfl rfl), Q_HB, Q_BX⟩
     | false =>
      refine ⟨_, rfl, fun K hK => ?_⟩
      have e28 : a.tmps[28]? = some (.bool q0) := by rw [ha]; exact putSel_on (e := (16, 28, .bool q0)) 16 rfl rfl (hon 16 (by kernel_rfl)) rfl
      have e26 : a.tmps[26]? = some (.bool false) := by rw [ha]; exact putSel_on (e := (14, 26, .bool false)) 14 rfl rfl (hon 14 (by kernel_rfl)) rfl
      replace ha := Aside0.mk ha
      have HB := Aside0.mk Q_HB
      have BX := Aside0.mk Q_BX
      refine value_ (w1 := w') (v := .bool q0) (wanted_on rfl rfl rfl (e26.trans (by first | rfl | (simp [*]; done)))) rfl ?_ ?_
      ·go_simp
       (try simp only [i64_w])
       try rfl
      refine hK.out _ _ ⟨(by rw [ha.out]; exact putSel_upk 17 hb_ rfl rfl rfl), Q_HB, Q_BX⟩
    refine steps_cons ?_ ?_
    ·rintro b a w' ⟨ha, Q_HB, Q_BX⟩ hb_ hon hoff
     cases p2 with
     | true =>
      refine ⟨_, rfl, fun K hK => ?_⟩
      have e29 : a.tmps[29]? = some (undef) := by rw [ha]; exact putSel_on (e := (17, 29, undef)) 17 rfl rfl (hon 17 (by kernel_rfl)) rfl
      replace ha := Aside0.mk ha
      refine off_ (wanted_undef rfl rfl rfl (e29.trans (by first | rfl | (simp [*]; done)))) ?_
      refine hK.out _ _ ⟨(by rw [ha.out]; exact putSel_upk 18 hb_ rfl rfl rfl), Q_HB, Q_BX⟩
     | false =>
      cases q0 with
      | true =>
       refine ⟨_, rfl, fun K hK => ?_⟩
       have e0 : a.tmps[0]? = some (.slice (some ad) l.length c) := by rw [ha]; exact (putSel_off rfl).trans rfl
       have e29 : a.tmps[29]? = some (.bool true) := by rw [ha]; exact putSel_on (e := (17, 29, .bool true)) 17 rfl rfl (hon 17 (by kernel_rfl)) rfl
       replace ha := Aside0.mk ha
       have HB := Aside0.mk Q_HB
       have BX := Aside0.mk Q_BX
       refine value_ (w1 := w') (v := .slice (some ad) l.length c) (wanted_on rfl rfl rfl (e29.trans (by first | rfl | (simp [*]; done)))) rfl ?_ ?_
       ·go_simp
        (try simp only [i64_w])
        try rfl
       refine hK.out _ _ ⟨(by rw [ha.out]; exact putSel_upk 18 hb_ rfl rfl rfl), Q_HB, Q_BX⟩
      | false =>
       refine ⟨_, rfl, fun K hK => ?_⟩
       have e29 : a.tmps[29]? = some (.bool false) := by rw [ha]; exact putSel_on (e := (17, 29, .bool false)) 17 rfl rfl (hon 17 (by kernel_rfl)) rfl
       replace ha := Aside0.mk ha
       refine off_ (wanted_off rfl rfl rfl (e29.trans (by first | rfl | (simp [*]; done)))) ?_
       refine hK.out _ _ ⟨(by rw [ha.out]; exact putSel_upk 18 hb_ rfl rfl rfl), Q_HB, Q_BX⟩
    refine steps_cons ?_ ?_
    ·rintro b a w' ⟨ha, Q_HB, Q_BX⟩ hb_ hon hoff
     cases p2 with
     | true =>
      refine ⟨_, rfl, fun K hK => ?_⟩
      have e29 : a.tmps[29]? = some (undef) := by rw [ha]; exact putSel_on (e := (17, 29, undef)) 17 rfl rfl (hon 17 (by kernel_rfl)) rfl
      replace ha := Aside0.mk ha
      refine off_ (wanted_undef rfl rfl rfl (e29.trans (by first | rfl | (simp [*]; done)))) ?_
      refine hK.out _ _ ⟨(by rw [ha.out]; exact putSel_upk 19 hb_ rfl rfl rfl), Q_HB, Q_BX⟩
     | false =>
      cases q0 with
      | true =>
       refine ⟨_, rfl, fun K hK => ?_⟩
       have e3 : a.tmps[3]? = some (.int .i64 (k : Int)) := by rw [ha]; exact (putSel_off rfl).trans rfl
       have e29 : a.tmps[29]? = some (.bool true) := by rw [ha]; exact putSel_on (e := (17, 29, .bool true)) 17 rfl rfl (hon 17 (by kernel_rfl)) rfl
       replace ha := Aside0.mk ha
       have HB := Aside0.mk Q_HB
       have BX := Aside0.mk Q_BX
       refine value_ (w1 := w') (v := .int .i64 (k : Int)) (wanted_on rfl rfl rfl (e29.trans (by first | rfl | (simp [*]; done)))) rfl ?_ ?_
       ·go_simp
        (try simp only [i64_w])
        try rfl
       refine hK.out _ _ ⟨(by rw [ha.out]; exact putSel_upk 19 hb_ rfl rfl rfl), Q_HB, Q_BX⟩
      | false =>
       refine ⟨_, rfl, fun K hK => ?_⟩
       have e29 : a.tmps[29]? = some (.bool false) := by rw [ha]; exact putSel_on (e := (17, 29, .bool false)) 17 rfl rfl (hon 17 (by kernel_rfl)) rfl
       replace ha := Aside0.mk ha
       refine off_ (wanted_off rfl rfl rfl (e29.trans (by first | rfl | (simp [*]; done)))) ?_
       refine hK.out _ _ ⟨(by rw [ha.out]; exact putSel_upk 19 hb_ rfl rfl rfl), Q_HB, Q_BX⟩
    refine steps_cons ?_ ?_
    ·rintro b a w' ⟨ha, Q_HB, Q_BX⟩ hb_ hon hoff
     cases p2 with
     | true =>
      refine ⟨_, rfl, fun K hK => ?_⟩
      have e29 : a.tmps[29]? = some (undef) := by rw [ha]; exact putSel_on (e := (17, 29, undef)) 17 rfl rfl (hon 17 (by kernel_rfl)) rfl
      replace ha := Aside0.mk ha
      refine off_ (wanted_undef rfl rfl rfl (e29.trans (by first | rfl | (simp [*]; done)))) ?_
      refine hK.out _ _ ⟨(by rw [ha.out]; exact putSel_upk 20 hb_ rfl rfl rfl), Q_HB, Q_BX⟩
     | false =>
      cases q0 with
      | true =>
       refine ⟨_, rfl, fun K hK => ?_⟩
       have e31 : a.tmps[31]? = some (.int .i64 (k : Int)) := by rw [ha]; exact putSel_on (e := (19, 31, .int .i64 (k : Int))) 19 rfl rfl (hon 19 (by kernel_rfl)) rfl
       have e29 : a.tmps[29]? = some (.bool true) := by rw [ha]; exact putSel_on (e := (17, 29, .bool true)) 17 rfl rfl (hon 17 (by kernel_rfl)) rfl
       replace ha := Aside0.mk ha
       have HB := Aside0.mk Q_HB
       have BX := Aside0.mk Q_BX
       have hk_ : 1 ≤ k := by have h_ := of_decide_eq_true HQ0.out; omega
       have hw_ : IntKind.i64.wrap ((k : Int) - 1) = (k : Int) - 1 := by rw [i64_w]; unfold wrap64; omega
       refine value_ (w1 := w') (v := .int .i64 ((k : Int) - 1)) (wanted_on rfl rfl rfl (e29.trans (by first | rfl | (simp [*]; done)))) rfl ?_ ?_
       ·go_simp
        (try simp only [i64_w])
        try rfl
       refine hK.out _ _ ⟨(by rw [ha.out]; exact putSel_upk 20 hb_ rfl rfl rfl), Q_HB, Q_BX⟩
      | false =>
       refine ⟨_, rfl, fun K hK => ?_⟩
       have e29 : a.tmps[29]? = some (.bool false) := by rw [ha]; exact putSel_on (e := (17, 29, .bool false)) 17 rfl rfl (hon 17 (by kernel_rfl)) rfl
       replace ha := Aside0.mk ha
       refine off_ (wanted_off rfl rfl rfl (e29.trans (by first | rfl | (simp [*]; done)))) ?_
       refine hK.out _ _ ⟨(by rw [ha.out]; exact putSel_upk 20 hb_ rfl rfl rfl), Q_HB, Q_BX⟩
    refine steps_cons ?_ ?_
    ·rintro b a w' ⟨ha, Q_HB, Q_BX⟩ hb_ hon hoff
     cases p2 with
     | true =>
      refine ⟨_, rfl, fun K hK => ?_⟩
      have e29 : a.tmps[29]? = some (undef) := by rw [ha]; exact putSel_on (e := (17, 29, undef)) 17 rfl rfl (hon 17 (by kernel_rfl)) rfl
      replace ha := Aside0.mk ha
      refine off_ (wanted_undef rfl rfl rfl (e29.trans (by first | rfl | (simp [*]; done)))) ?_
      refine hK.out _ _ ⟨(by rw [ha.out]; exact putSel_upk 21 hb_ rfl rfl rfl), Q_HB, Q_BX⟩
     | false =>
      cases q0 with
      | true =>
       refine ⟨_, rfl, fun K hK => ?_⟩
       have e30 : a.tmps[30]? = some (.slice (some ad) l.length c) := by rw [ha]; exact putSel_on (e := (18, 30, .slice (some ad) l.length c)) 18 rfl rfl (hon 18 (by kernel_rfl)) rfl
       have e32 : a.tmps[32]? = some (.int .i64 ((k : Int) - 1)) := by rw [ha]; exact putSel_on (e := (20, 32, .int .i64 ((k : Int) - 1))) 20 rfl rfl (hon 20 (by kernel_rfl)) rfl
       have e29 : a.tmps[29]? = some (.bool true) := by rw [ha]; exact putSel_on (e := (17, 29, .bool true)) 17 rfl rfl (hon 17 (by kernel_rfl)) rfl
       replace ha := Aside0.mk ha
       have HB := Aside0.mk Q_HB
       have BX := Aside0.mk Q_BX
       have hk_ : 1 ≤ k := by have h_ := of_decide_eq_true HQ0.out; omega
       have hk2_ : ((k : Int) - 1).toNat = k - 1 := by omega
       have hk3_ : (1 : Int) ≤ (k : Int) := by omega
       have hk4_ : (k : Int) - 1 < (l.length : Int) := by omega
       refine value_ (w1 := w') (v := .pointer (some (ad.add ((k - 1) * 9)))) (wanted_on rfl rfl rfl (e29.trans (by first | rfl | (simp [*]; done)))) rfl ?_ ?_
       ·go_simp
        (try simp only [i64_w])
        try rfl
       refine hK.out _ _ ⟨(by rw [ha.out]; exact putSel_upk 21 hb_ rfl rfl rfl), Q_HB, Q_BX⟩
      | false =>
       refine ⟨_, rfl, fun K hK => ?_⟩
       have e29 : a.tmps[29]? = some (.bool false) := by rw [ha]; exact putSel_on (e := (17, 29, .bool false)) 17 rfl rfl (hon 17 (by kernel_rfl)) rfl
       replace ha := Aside0.mk ha
       refine off_ (wanted_off rfl rfl rfl (e29.trans (by first | rfl | (simp [*]; done)))) ?_
       refine hK.out _ _ ⟨(by rw [ha.out]; exact putSel_upk 21 hb_ rfl rfl rfl), Q_HB, Q_BX⟩
    refine steps_cons ?_ ?_
    ·rintro b a w' ⟨ha, Q_HB, Q_BX⟩ hb_ hon hoff
     cases p2 with
     | true =>
      refine ⟨_, rfl, fun K hK => ?_⟩
      have e29 : a.tmps[29]? = some (undef) := by rw [ha]; exact putSel_on (e := (17, 29, undef)) 17 rfl rfl (hon 17 (by kernel_rfl)) rfl
      replace ha := Aside0.mk ha
      refine off_ (wanted_undef rfl rfl rfl (e29.trans (by first | rfl | (simp [*]; done)))) ?_
      refine hK.out _ _ ⟨(by rw [ha.out]; exact putSel_upk 22 hb_ rfl rfl rfl), Q_HB, Q_BX⟩
     | false =>
      cases q0 with
      | true =>
       refine ⟨_, rfl, fun K hK => ?_⟩
       have e33 : a.tmps[33]? = some (.pointer (some (ad.add ((k - 1) * 9)))) := by rw [ha]; exact putSel_on (e := (21, 33, .pointer (some (ad.add ((k - 1) * 9))))) 21 rfl rfl (hon 21 (by kernel_rfl)) rfl
       have e29 : a.tmps[29]? = some (.bool true) := by rw [ha]; exact putSel_on (e := (17, 29, .bool true)) 17 rfl rfl (hon 17 (by kernel_rfl)) rfl
       replace ha := Aside0.mk ha
       have HB := Aside0.mk Q_HB
       have BX := Aside0.mk Q_BX
       refine value_ (w1 := w') (v := .pointer (some (ad.add ((k - 1) * 9)))) (wanted_on rfl rfl rfl (e29.trans (by first | rfl | (simp [*]; done)))) rfl ?_ ?_
       ·go_simp
        (try simp only [i64_w])
        try rfl
       refine hK.out _ _ ⟨(by rw [ha.out]; exact putSel_upk 22 hb_ rfl rfl rfl), Q_HB, Q_BX⟩
      | false =>
       refine ⟨_, rfl, fun K hK => ?_⟩
       have e29 : a.tmps[29]? = some (.bool false) := by rw [ha]; exact putSel_on (e := (17, 29, .bool false)) 17 rfl rfl (hon 17 (by kernel_rfl)) rfl
       replace ha := Aside0.mk ha
       refine off_ (wanted_off rfl rfl rfl (e29.trans (by first | rfl | (simp [*]; done)))) ?_
       refine hK.out _ _ ⟨(by rw [ha.out]; exact putSel_upk 22 hb_ rfl rfl rfl), Q_HB, Q_BX⟩
    refine steps_cons ?_ ?_
    ·rintro b a w' ⟨ha, Q_HB, Q_BX⟩ hb_ hon hoff
     cases p2 with
     | true =>
      refine ⟨_, rfl, fun K hK => ?_⟩
      have e29 : a.tmps[29]? = some (undef) := by rw [ha]; exact putSel_on (e := (17, 29, undef)) 17 rfl rfl (hon 17 (by kernel_rfl)) rfl
      replace ha := Aside0.mk ha
      refine off_ (wanted_undef rfl rfl rfl (e29.trans (by first | rfl | (simp [*]; done)))) ?_
      refine hK.out _ _ ⟨(by rw [ha.out]; exact putSel_upk 23 hb_ rfl rfl rfl), Q_HB, Q_BX⟩
     | false =>
      cases q0 with
      | true =>
       refine ⟨_, rfl, fun K hK => ?_⟩
       have e34 : a.tmps[34]? = some (.pointer (some (ad.add ((k - 1) * 9)))) := by rw [ha]; exact putSel_on (e := (22, 34, .pointer (some (ad.add ((k - 1) * 9))))) 22 rfl rfl (hon 22 (by kernel_rfl)) rfl
       have e29 : a.tmps[29]? = some (.bool true) := by rw [ha]; exact putSel_on (e := (17, 29, .bool true)) 17 rfl rfl (hon 17 (by kernel_rfl)) rfl
       replace ha := Aside0.mk ha
       have HB := Aside0.mk Q_HB
       have BX := Aside0.mk Q_BX
       have hc_ := up_cell HB.out (HY.out (by have h_ := of_decide_eq_true HQ0.out; omega))
       refine value_ (w1 := w') (v := .int .i64 y) (wanted_on rfl rfl rfl (e29.trans (by first | rfl | (simp [*]; done)))) rfl ?_ ?_
       ·go_simp
        (try simp only [i64_w])
        try rfl
       refine hK.out _ _ ⟨(by rw [ha.out]; exact putSel_upk 23 hb_ rfl rfl rfl), Q_HB, Q_BX⟩
      | false =>
       refine ⟨_, rfl, fun K hK => ?_⟩
       have e29 : a.tmps[29]? = some (.bool false) := by rw [ha]; exact putSel_on (e := (17, 29, .bool false)) 17 rfl rfl (hon 17 (by kernel_rfl)) rfl
       replace ha := Aside0.mk ha
       refine off_ (wanted_off rfl rfl rfl (e29.trans (by first | rfl | (simp [*]; done)))) ?_
       refine hK.out _ _ ⟨(by rw [ha.out]; exact putSel_upk 23 hb_ rfl rfl rfl), Q_HB, Q_BX⟩
    refine steps_cons ?_ ?_
    ·rintro b a w' ⟨ha, Q_HB, Q_BX⟩ hb_ hon hoff
     cases p2 with
     | true =>
      refine ⟨_, rfl, fun K hK => ?_⟩
      have e29 : a.tmps[29]? = some (undef) := by rw [ha]; exact putSel_on (e := (17, 29, undef)) 17 rfl rfl (hon 17 (by kernel_rfl)) rfl
      replace ha := Aside0.mk ha
      refine off_ (wanted_undef rfl rfl rfl (e29.trans (by first | rfl | (simp [*]; done)))) ?_
      refine hK.out _ _ ⟨(by rw [ha.out]; exact putSel_upk 24 hb_ rfl rfl rfl), Q_HB, Q_BX⟩
     | false =>
      cases q0 with
      | true =>
       refine ⟨_, rfl, fun K hK => ?_⟩
       have e4 : a.tmps[4]? = some (.pointer (some ⟨KB, 0, none⟩)) := by rw [ha]; exact (putSel_off rfl).trans rfl
       have e29 : a.tmps[29]? = some (.bool true) := by rw [ha]; exact putSel_on (e := (17, 29, .bool true)) 17 rfl rfl (hon 17 (by kernel_rfl)) rfl
       replace ha := Aside0.mk ha
       have HB := Aside0.mk Q_HB
       have BX := Aside0.mk Q_BX
       refine value_ (w1 := w') (v := .pointer (some ⟨KB, 0, none⟩)) (wanted_on rfl rfl rfl (e29.trans (by first | rfl | (simp [*]; done)))) rfl ?_ ?_
       ·go_simp
        (try simp only [i64_w])
        try rfl
       refine hK.out _ _ ⟨(by rw [ha.out]; exact putSel_upk 24 hb_ rfl rfl rfl), Q_HB, Q_BX⟩
      | false =>
       refine ⟨_, rfl, fun K hK => ?_⟩
       have e29 : a.tmps[29]? = some (.bool false) := by rw [ha]; exact putSel_on (e := (17, 29, .bool false)) 17 rfl rfl (hon 17 (by kernel_rfl)) rfl
       replace ha := Aside0.mk ha
       refine off_ (wanted_off rfl rfl rfl (e29.trans (by first | rfl | (simp [*]; done)))) ?_
       refine hK.out _ _ ⟨(by rw [ha.out]; exact putSel_upk 24 hb_ rfl rfl rfl), Q_HB, Q_BX⟩
    refine steps_cons ?_ ?_
    ·rintro b a w' ⟨ha, Q_HB, Q_BX⟩ hb_ hon hoff
     cases p2 with
     | true =>
      refine ⟨_, rfl, fun K hK => ?_⟩
      have e29 : a.tmps[29]? = some (undef) := by rw [ha]; exact putSel_on (e := (17, 29, undef)) 17 rfl rfl (hon 17 (by kernel_rfl)) rfl
      replace ha := Aside0.mk ha
      refine off_ (wanted_undef rfl rfl rfl (e29.trans (by first | rfl | (simp [*]; done)))) ?_
      refine hK.out _ _ ⟨(by rw [ha.out]; exact putSel_upk 25 hb_ rfl rfl rfl), Q_HB, Q_BX⟩
     | false =>
      cases q0 with
      | true =>
       refine ⟨_, rfl, fun K hK => ?_⟩
       have e36 : a.tmps[36]? = some (.pointer (some ⟨KB, 0, none⟩)) := by rw [ha]; exact putSel_on (e := (24, 36, .pointer (some ⟨KB, 0, none⟩))) 24 rfl rfl (hon 24 (by kernel_rfl)) rfl
       have e29 : a.tmps[29]? = some (.bool true) := by rw [ha]; exact putSel_on (e := (17, 29, .bool true)) 17 rfl rfl (hon 17 (by kernel_rfl)) rfl
       replace ha := Aside0.mk ha
       have HB := Aside0.mk Q_HB
       have BX := Aside0.mk Q_BX
       have hc0_ : w'.cell? ⟨KB, 0, none⟩ = some (.int .i64 x.f0) := (blk_cell BX.out 0).trans rfl
       refine value_ (w1 := w') (v := .int .i64 x.f0) (wanted_on rfl rfl rfl (e29.trans (by first | rfl | (simp [*]; done)))) rfl ?_ ?_
       ·go_simp
        (try simp only [i64_w])
        try rfl
       refine hK.out _ _ ⟨(by rw [ha.out]; exact putSel_upk 25 hb_ rfl rfl rfl), Q_HB, Q_BX⟩
      | false =>
       refine ⟨_, rfl, fun K hK => ?_⟩
       have e29 : a.tmps[29]? = some (.bool false) := by rw [ha]; exact putSel_on (e := (17, 29, .bool false)) 17 rfl rfl (hon 17 (by kernel_rfl)) rfl
       replace ha := Aside0.mk ha
       refine off_ (wanted_off rfl rfl rfl (e29.trans (by first | rfl | (simp [*]; done)))) ?_
       refine hK.out _ _ ⟨(by rw [ha.out]; exact putSel_upk 25 hb_ rfl rfl rfl), Q_HB, Q_BX⟩
    refine steps_cons ?_ ?_
    ·rintro b a w' ⟨ha, Q_HB, Q_BX⟩ hb_ hon hoff
     cases p2 with
     | true =>
      refine ⟨_, rfl, fun K hK => ?_⟩
      have e29 : a.tmps[29]? = some (undef) := by rw [ha]; exact putSel_on (e := (17, 29, undef)) 17 rfl rfl (hon 17 (by kernel_rfl)) rfl
      replace ha := Aside0.mk ha
      refine off_ (wanted_undef rfl rfl rfl (e29.trans (by first | rfl | (simp [*]; done)))) ?_
      refine hK.out _ _ ⟨(by rw [ha.out]; exact putSel_upk 26 hb_ rfl rfl rfl), Q_HB, Q_BX⟩
     | false =>
      cases q0 with
      | true =>
       refine ⟨_, rfl, fun K hK => ?_⟩
       have e35 : a.tmps[35]? = some (.int .i64 y) := by rw [ha]; exact putSel_on (e := (23, 35, .int .i64 y)) 23 rfl rfl (hon 23 (by kernel_rfl)) rfl
       have e37 : a.tmps[37]? = some (.int .i64 x.f0) := by rw [ha]; exact putSel_on (e := (25, 37, .int .i64 x.f0)) 25 rfl rfl (hon 25 (by kernel_rfl)) rfl
       have e29 : a.tmps[29]? = some (.bool true) := by rw [ha]; exact putSel_on (e := (17, 29, .bool true)) 17 rfl rfl (hon 17 (by kernel_rfl)) rfl
       replace ha := Aside0.mk ha
       have HB := Aside0.mk Q_HB
       have BX := Aside0.mk Q_BX
       have hq_ := HC3q.out
       refine value_ (w1 := w') (v := .bool c3) (wanted_on rfl rfl rfl (e29.trans (by first | rfl | (simp [*]; done)))) rfl ?_ ?_
       ·go_simp
        (try simp only [i64_w])
        try rfl
       refine hK.out _ _ ⟨(by rw [ha.out]; exact putSel_upk 26 hb_ rfl rfl rfl), Q_HB, Q_BX⟩
      | false =>
       refine ⟨_, rfl, fun K hK => ?_⟩
       have e29 : a.tmps[29]? = some (.bool false) := by rw [ha]; exact putSel_on (e := (17, 29, .bool false)) 17 rfl rfl (hon 17 (by kernel_rfl)) rfl
       replace ha := Aside0.mk ha
       refine off_ (wanted_off rfl rfl rfl (e29.trans (by first | rfl | (simp [*]; done)))) ?_
       refine hK.out _ _ ⟨(by rw [ha.out]; exact putSel_upk 26 hb_ rfl rfl rfl), Q_HB, Q_BX⟩
    refine steps_cons ?_ ?_
    ·rintro b a w' ⟨ha, Q_HB, Q_BX⟩ hb_ hon hoff
     cases p2 with
     | true =>
      refine ⟨_, rfl, fun K hK => ?_⟩
      have e26 : a.tmps[26]? = some (.bool true) := by rw [ha]; exact putSel_on (e := (14, 26, .bool true)) 14 rfl rfl (hon 14 (by kernel_rfl)) rfl
      replace ha := Aside0.mk ha
      refine off_ (wanted_off rfl rfl rfl (e26.trans (by first | rfl | (simp [*]; done)))) ?_
      refine hK.out _ _ ⟨(by rw [ha.out]; exact putSel_upk 27 hb_ rfl rfl rfl), Q_HB, Q_BX⟩
     | false =>
      cases q0 with
      | true =>
       obtain rfl : c3 = c4 := HP4.out.symm
       refine ⟨_, rfl, fun K hK => ?_⟩
       have e29 : a.tmps[29]? = some (.bool true) := by rw [ha]; exact putSel_on (e := (17, 29, .bool true)) 17 rfl rfl (hon 17 (by kernel_rfl)) rfl
       have e38 : a.tmps[38]? = some (.bool c3) := by rw [ha]; exact putSel_on (e := (26, 38, .bool c3)) 26 rfl rfl (hon 26 (by kernel_rfl)) rfl
       have e26 : a.tmps[26]? = some (.bool false) := by rw [ha]; exact putSel_on (e := (14, 26, .bool false)) 14 rfl rfl (hon 14 (by kernel_rfl)) rfl
       replace ha := Aside0.mk ha
       have HB := Aside0.mk Q_HB
       have BX := Aside0.mk Q_BX
       refine value_ (w1 := w') (v := .bool c3) (wanted_on rfl rfl rfl (e26.trans (by first | rfl | (simp [*]; done)))) rfl ?_ ?_
       ·go_simp
        (try simp only [i64_w])
        try rfl
       refine hK.out _ _ ⟨(by rw [ha.out]; exact putSel_upk 27 hb_ rfl rfl rfl), Q_HB, Q_BX⟩
      | false =>
       obtain rfl : false = c4 := HP4.out.symm
       refine ⟨_, rfl, fun K hK => ?_⟩
       have e29 : a.tmps[29]? = some (.bool false) := by rw [ha]; exact putSel_on (e := (17, 29, .bool false)) 17 rfl rfl (hon 17 (by kernel_rfl)) rfl
       have e38 : a.tmps[38]? = some (undef) := by rw [ha]; exact putSel_on (e := (26, 38, undef)) 26 rfl rfl (hon 26 (by kernel_rfl)) rfl
       have e26 : a.tmps[26]? = some (.bool false) := by rw [ha]; exact putSel_on (e := (14, 26, .bool false)) 14 rfl rfl (hon 14 (by kernel_rfl)) rfl
       replace ha := Aside0.mk ha
       have HB := Aside0.mk Q_HB
       have BX := Aside0.mk Q_BX
       refine value_ (w1 := w') (v := .bool false) (wanted_on rfl rfl rfl (e26.trans (by first | rfl | (simp [*]; done)))) rfl ?_ ?_
       ·go_simp
        (try simp only [i64_w])
        try rfl
       refine hK.out _ _ ⟨(by rw [ha.out]; exact putSel_upk 27 hb_ rfl rfl rfl), Q_HB, Q_BX⟩
    refine steps_cons ?_ ?_
    ·rintro b a w' ⟨ha, Q_HB, Q_BX⟩ hb_ hon hoff
     cases p2 with
     | true =>
      obtain rfl : true = p3 := HP3.out.symm
      refine ⟨_, rfl, fun K hK => ?_⟩
      have e26 : a.tmps[26]? = some (.bool true) := by rw [ha]; exact putSel_on (e := (14, 26, .bool true)) 14 rfl rfl (hon 14 (by kernel_rfl)) rfl
      have e39 : a.tmps[39]? = some (undef) := by rw [ha]; exact putSel_on (e := (27, 39, undef)) 27 rfl rfl (hon 27 (by kernel_rfl)) rfl
      replace ha := Aside0.mk ha
      have HB := Aside0.mk Q_HB
      have BX := Aside0.mk Q_BX
      refine value_ (w1 := w') (v := .bool true) (by rfl) rfl ?_ ?_
      ·go_simp
       (try simp only [i64_w])
       try rfl
      refine hK.out _ _ ⟨(by rw [ha.out]; exact putSel_upk 28 hb_ rfl rfl rfl), Q_HB, Q_BX⟩
     | false =>
      obtain rfl : c4 = p3 := HP3.out.symm
      refine ⟨_, rfl, fun K hK => ?_⟩
      have e26 : a.tmps[26]? = some (.bool false) := by rw [ha]; exact putSel_on (e := (14, 26, .bool false)) 14 rfl rfl (hon 14 (by kernel_rfl)) rfl
      have e39 : a.tmps[39]? = some (.bool c4) := by rw [ha]; exact putSel_on (e := (27, 39, .bool c4)) 27 rfl rfl (hon 27 (by kernel_rfl)) rfl
      replace ha := Aside0.mk ha
      have HB := Aside0.mk Q_HB
      have BX := Aside0.mk Q_BX
      refine value_ (w1 := w') (v := .bool c4) (by rfl) rfl ?_ ?_
      ·go_simp
       (try simp only [i64_w])
       try rfl
      refine hK.out _ _ ⟨(by rw [ha.out]; exact putSel_upk 28 hb_ rfl rfl rfl), Q_HB, Q_BX⟩
    exact steps_nil
   rintro b a w' hall ⟨ha, Q_HB, Q_BX⟩
   clear BX HB
   have hb0_ := hall 0 (by kernel_rfl)
   have hb1_ := hall 1 (by kernel_rfl)
   have hb2_ := hall 2 (by kernel_rfl)
   have hb3_ := hall 3 (by kernel_rfl)
   have hb4_ := hall 4 (by kernel_rfl)
   have hb5_ := hall 5 (by kernel_rfl)
   have hb6_ := hall 6 (by kernel_rfl)
   have hb7_ := hall 7 (by kernel_rfl)
   have hb8_ := hall 8 (by kernel_rfl)
   have hb9_ := hall 9 (by kernel_rfl)
   have hb10_ := hall 10 (by kernel_rfl)
   have hb11_ := hall 11 (by kernel_rfl)
   have hb12_ := hall 12 (by kernel_rfl)
   have hb13_ := hall 13 (by kernel_rfl)
   have hb14_ := hall 14 (by kernel_rfl)
   have hb15_ := hall 15 (by kernel_rfl)
   have hb16_ := hall 16 (by kernel_rfl)
   have hb17_ := hall 17 (by kernel_rfl)
   have hb18_ := hall 18 (by kernel_rfl)
   have hb19_ := hall 19 (by kernel_rfl)
   have hb20_ := hall 20 (by kernel_rfl)
   have hb21_ := hall 21 (by kernel_rfl)
   have hb22_ := hall 22 (by kernel_rfl)
   have hb23_ := hall 23 (by kernel_rfl)
   have hb24_ := hall 24 (by kernel_rfl)
   have hb25_ := hall 25 (by kernel_rfl)
   have hb26_ := hall 26 (by kernel_rfl)
   have hb27_ := hall 27 (by kernel_rfl)
   have hb28_ := hall 28 (by kernel_rfl)
   subst ha
   simp only [putSel, hb0_, hb1_, hb2_, hb3_, hb4_, hb5_, hb6_, hb7_, hb8_, hb9_, hb10_, hb11_, hb12_, hb13_, hb14_, hb15_, hb16_, hb17_, hb18_, hb19_, hb20_, hb21_, hb22_, hb23_, hb24_, hb25_, hb26_, hb27_, hb28_, if_true, Act.put, List.setIfInBounds_toArray, List.set_cons_zero, List.set_cons_succ]
   have HB := Aside0.mk Q_HB
   clear Q_HB
   have BX := Aside0.mk Q_BX
   clear Q_BX
   clear hall hb0_ hb1_ hb2_ hb3_ hb4_ hb5_ hb6_ hb7_ hb8_ hb9_ hb10_ hb11_ hb12_ hb13_ hb14_ hb15_ hb16_ hb17_ hb18_ hb19_ hb20_ hb21_ hb22_ hb23_ hb24_ hb25_ hb26_ hb27_ hb28_
   cases p3 with
   | true =>
    have HNO := Aside0.mk (show pagesB l = false by
     unfold pagesB
     rw [show (List.range l.length).all (pgsAt l) = false from List.all_eq_false.2 ⟨k, List.mem_range.2 hlt, by rw [HLAST.out]; decide⟩]
     rfl)
    clear BX
    go_wp2
    go_ret
    exact ⟨by rw [HNO.out]; rfl, HB.out⟩
   | false =>
    have HALL2 := Aside0.mk (show ∀ j, j < k + 1 → pgsAt l j = true from fun j hj => by
     rcases Nat.lt_or_ge j k with h | h
     ·exact HALL.out j h
     ·obtain rfl : j = k := by omega
      rw [HLAST.out]; rfl)
    clear BX
    go_wp2
    go_roundw
    case rel => exact ⟨k + 1, hlt, by go_num, ⟨HALL2.out, HB.out⟩⟩
    case measure => simp [intOf]; omega
  ·obtain rfl : k = l.length := by omega
   have HYES := Aside0.mk (show pagesB l = decide ((l.length : Int) ≤ 30) by
    unfold pagesB
    rw [show (List.range l.length).all (pgsAt l) = true from List.all_eq_true.2 (fun j hj => hR.out.1 j (List.mem_range.1 hj))]
    rw [Bool.true_and]
    exact decide_eq_decide.2 (by omega))
   have HB := Aside0.mk hR.out.2
   clear hR
   go_wp2
   go_ret
   exact ⟨by rw [HYES.out]; rfl, HB.out⟩
end Go.Proofs.Ytopfaeefhicljaa.Q
