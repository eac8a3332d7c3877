/- rec.rightTable, walked. Conditions: slices no longer than memory. -/
import Derived.Test.YtopfaeefhicljaaRcPure
import Derived.Test.YtopfaeefhicljaaRcPages
namespace Go.Proofs.Ytopfaeefhicljaa.Q
open Go Go.RowKit Go.Proofs.YtopfaeefhicljaaW.PrintWords Go.Proofs.YtopfaeefhicljaaW.PrintMore Go.Proofs.YtopfaeefhicljaaW.PrintLast Go.Proofs.Ytopfaeefhicljaa.Leb Go.Proofs.Ytopfaeefhicljaa.Str
set_option linter.unusedVariables false
set_option linter.unusedSimpArgs false
def tB (x : S44) : Bool := tidB x.f0 x.f1
def eB (x y : S44) : Bool := eldB x.f0 x.f1 y.f0 y.f1
def opnAt (l : List S56) (i : Nat) : Bool := !((((((!(tB (rd_T56 l i).f0) || decide (4611686018427387904 < (rd_T56 l i).f1)) || decide (4611686018427387904 < (rd_T56 l i).f2)) || decide ((rd_T56 l i).f3 < 0)) || decide (1073741824 < (rd_T56 l i).f3)) || !(keysB (rd_T56 l i).f5)) || (decide ((0 : Int) < i) && !(eB (rd_T56 l ((i : Int) - 1)).f0 (rd_T56 l i).f0)))
def dnAt (l : List S58) (i : Nat) : Bool := !((!(tB (rd_T58 l i).f0) || !(nodesB (rd_T58 l i).f1)) || (decide ((0 : Int) < i) && !(eB (rd_T58 l ((i : Int) - 1)).f0 (rd_T58 l i).f0)))
def tableB (l : List S56) (l2 : List S58) : Bool := (List.range l.length).all (opnAt l) && ((List.range l2.length).all (dnAt l2) && (decide (l.length ≤ 200) && decide (l2.length ≤ 200)))
/-- Keys and nodes that fit memory. -/
def OpFit (l : List S56) : Prop := ∀ x ∈ l, x.f5.length ≤ 1000000
def DnFit (l : List S58) : Prop := ∀ x ∈ l, x.f1.length ≤ 1000000
def rctb4.T4 : Bool × List (List Nat × List Nat) := (true, [([], []), ([0], [0]), ([1], [1]), ([2], [2]), ([3, 2], [3]), ([4], [4]), ([5, 4], [4, 5]), ([6, 4], [4, 6]), ([4, 7], [4, 7]), ([8, 4], [8]), ([9], [9]), ([10, 9], [9, 10]), ([11, 9], [9, 11]), ([9, 12], [9, 12]), ([13, 9], [13]), ([14], [14]), ([15, 14], [14, 15]), ([16, 14], [14, 16]), ([14, 17], [14, 17]), ([18, 14], [18]), ([19], [19]), ([20, 19], [19, 20]), ([21, 19], [19, 21]), ([19, 22], [19, 22]), ([23, 19], [23]), ([24], [24]), ([25, 24], [24, 25]), ([26, 24, 24], [24, 26]), ([27, 24], [24, 27]), ([24, 28], [24, 28]), ([29, 27], [29]), ([30], [30]), ([31, 30], [30, 31]), ([32, 30, 30], [30, 32]), ([33], [33]), ([33], [33]), ([35, 33], [33, 35]), ([34, 36, 33], [33, 34, 36]), ([37, 33], [33, 37]), ([38, 33], [33, 38]), ([33], [33]), ([40, 33], [33, 40]), ([39, 41, 33, 33], [33, 39, 41]), ([42, 33], [33, 42]), ([33, 43, 30], [30, 33, 43]), ([30, 44], [30, 44])])
def rctb4.B4 : List Nat := [0, 1, 3, 7, 15, 31, 63, 127, 255, 511, 1023, 2047, 4095, 8191, 16383, 32767, 65535, 131071, 262143, 524287, 1048575, 2097151, 4194303, 8388607, 16777215, 33554431, 67108863, 134217727, 268435455, 536870911, 1073741823, 2147483647, 4294967295, 8589934591, 17179869183, 17179869183, 51539607551, 137438953471, 274877906943, 549755813887, 17179869183, 1116691496959, 4398046511103, 8796093022207, 17592186044415, 35184372088831]
theorem rctb4.tab4 : rtab .any (opsOf Try.f63 4) = rctb4.T4 := by kernel_rfl
theorem rctb4.bits4 : waitsOk rctb4.T4.2 rctb4.B4 = true := by kernel_rfl
def rctb10.T10 : Bool × List (List Nat × List Nat) := (true, [([], []), ([0], [0]), ([1], [1]), ([2], [2]), ([3, 2], [3]), ([4], [4]), ([5, 4], [4, 5]), ([6, 4, 4], [4, 6]), ([7, 4], [4, 7]), ([4, 8], [4, 8]), ([9, 7], [9]), ([10], [10]), ([11, 10], [10, 11]), ([12, 10, 10], [10, 12]), ([13], [13]), ([13], [13]), ([15, 13], [13, 15]), ([14, 16, 13], [13, 14, 16]), ([17, 13], [13, 17]), ([18, 13], [13, 18]), ([13], [13]), ([20, 13], [13, 20]), ([19, 21, 13, 13], [13, 19, 21]), ([22, 13], [13, 22]), ([13, 23, 10], [10, 13, 23]), ([10, 24], [10, 24])])
def rctb10.B10 : List Nat := [0, 1, 3, 7, 15, 31, 63, 127, 255, 511, 1023, 2047, 4095, 8191, 16383, 16383, 49151, 131071, 262143, 524287, 16383, 1064959, 4194303, 8388607, 16777215, 33554431]
theorem rctb10.tab10 : rtab .any (opsOf Try.f63 10) = rctb10.T10 := by kernel_rfl
theorem rctb10.bits10 : waitsOk rctb10.T10.2 rctb10.B10 = true := by kernel_rfl
set_option maxRecDepth 100000 in
set_option maxHeartbeats 4000000 in
theorem table_ok (A : Option Addr) (c : Nat) (l : List S56) (A2 : Option Addr) (c2 : Nat) (l2 : List S58) (w : World) (hC : Kd.C k56 w A l.length l) (hc : l.length ≤ c) (hf : OpFit l) (hC2 : Kd.C k58 w A2 l2.length l2) (hc2 : l2.length ≤ c2) (hf2 : DnFit l2) :
  Calls Try.prog 63 #[.slice A l.length c, .slice A2 l2.length c2] w fun e w' => e = .returned (.bool (tableB l l2)) ∧ Below w.heap.size w w' := by
 have hlm := hC.2.1
 have hlm2 := hC2.2.1
 have HC := Aside0.mk hC
 have HF := Aside0.mk hf
 have HD := Aside0.mk hC2
 have HF2 := Aside0.mk hf2
 clear hC hf hC2 hf2
 go_enter Try.func63, Try.ntmps63
 go_wp2
 go_loopw [11] (fun i wr => ∃ k : Nat, k ≤ l.length ∧ i = .int .i64 k ∧ Aside0 ((∀ j, j < k → opnAt l j = true) ∧ Below w.heap.size w wr)) (fun i _ => l.length - (intOf i).toNat)
 case atStart => exact ⟨0, Nat.zero_le _, rfl, ⟨fun j hj => by omega, Below.refl _ _⟩⟩
 case round =>
  obtain ⟨k, hk, rfl, hR⟩ := hrel
  by_cases hlt : k < l.length
  ·obtain ⟨ad, B6, b6, hA, z0, z1, z2, z3, z4, z5, z6, l6, g6⟩ := at_T56 HC.out (k : Int) (by omega) (by omega)
   subst hA
   rw [Int.toNat_natCast] at z0 z1 z2 z3 z4 z5 z6
   have HY := Aside0.mk (show 1 ≤ k → w.cell? (ad.add ((k - 1) * 7)) = some (.int .u64 (rd_T56 l ((k : Int) - 1)).f0.f0) ∧ w.cell? ⟨(ad.add ((k - 1) * 7)).block, (ad.add ((k - 1) * 7)).off + 1, none⟩ = some (.int .i64 (rd_T56 l ((k : Int) - 1)).f0.f1) from fun hk1 => by
    obtain ⟨ad', _, _, hA', y0, y1, _⟩ := at_T56 HC.out ((k : Int) - 1) (by omega) (by omega)
    injection hA' with hA'
    rw [hA', show ((k : Int) - 1).toNat = k - 1 by omega] at *
    exact ⟨y0, y1⟩)
   have hx2 : (rd_T56 l (k : Int)) ∈ l := by unfold rd_T56; rw [Int.toNat_natCast]; simp [List.getD_eq_getElem?_getD, List.getElem?_eq_getElem hlt]
   have hfit := HF.out _ hx2
   have hAT : opnAt l k = opnAt l k := rfl
   conv at hAT => rhs; unfold opnAt
   obtain ⟨y, hy⟩ : ∃ y, y = (rd_T56 l ((k : Int) - 1)).f0 := ⟨_, rfl⟩
   obtain ⟨x, hx⟩ : ∃ x, x = rd_T56 l (k : Int) := ⟨_, rfl⟩
   rw [← hy] at HY hAT
   rw [← hx] at z0 z1 z2 z3 z4 z5 z6 l6 g6 hfit hAT
   obtain ⟨t0, ht0⟩ : ∃ b, tB x.f0 = b := ⟨_, rfl⟩
   obtain ⟨t1, hn1⟩ : ∃ b, (!t0) = b := ⟨_, rfl⟩
   obtain ⟨c1, hc1⟩ : ∃ b, decide (4611686018427387904 < x.f1) = b := ⟨_, rfl⟩
   obtain ⟨c2', hc2'⟩ : ∃ b, decide (4611686018427387904 < x.f2) = b := ⟨_, rfl⟩
   obtain ⟨c3, hc3⟩ : ∃ b, decide (x.f3 < 0) = b := ⟨_, rfl⟩
   obtain ⟨c4, hc4⟩ : ∃ b, decide (1073741824 < x.f3) = b := ⟨_, rfl⟩
   obtain ⟨t2, ht2⟩ : ∃ b, keysB x.f5 = b := ⟨_, rfl⟩
   obtain ⟨c5, hn5⟩ : ∃ b, (!t2) = b := ⟨_, rfl⟩
   obtain ⟨q0, hq0⟩ : ∃ b, decide ((0 : Int) < (k : Int)) = b := ⟨_, rfl⟩
   obtain ⟨t3, ht3⟩ : ∃ b, eB y x.f0 = b := ⟨_, rfl⟩
   obtain ⟨c6, hn6⟩ : ∃ b, (!t3) = b := ⟨_, rfl⟩
   obtain ⟨p1, hp1⟩ : ∃ b, b = (t1 || c1) := ⟨_, rfl⟩
   obtain ⟨p2, hp2⟩ : ∃ b, b = (p1 || c2') := ⟨_, rfl⟩
   obtain ⟨p3, hp3⟩ : ∃ b, b = (p2 || c3) := ⟨_, rfl⟩
   obtain ⟨p4, hp4⟩ : ∃ b, b = (p3 || c4) := ⟨_, rfl⟩
   obtain ⟨p5, hp5⟩ : ∃ b, b = (p4 || c5) := ⟨_, rfl⟩
   obtain ⟨c7, hp7⟩ : ∃ b, b = (q0 && c6) := ⟨_, rfl⟩
   obtain ⟨p6, hp6⟩ : ∃ b, b = (p5 || c7) := ⟨_, rfl⟩
   rw [ht0, hn1, hc1, hc2', hc3, hc4, ht2, hn5, hq0, ht3, hn6, ← hp1, ← hp2, ← hp3, ← hp4, ← hp5, ← hp7, ← hp6] at hAT
   have HLAST := Aside0.mk hAT
   have HN1 := Aside0.mk hn1
   have HC1 := Aside0.mk hc1
   have HC2 := Aside0.mk hc2'
   have HC3 := Aside0.mk hc3
   have HC4 := Aside0.mk hc4
   have HN5 := Aside0.mk hn5
   have HQ0 := Aside0.mk hq0
   have HN6 := Aside0.mk hn6
   have HP1 := Aside0.mk hp1
   have HP2 := Aside0.mk hp2
   have HP3 := Aside0.mk hp3
   have HP4 := Aside0.mk hp4
   have HP5 := Aside0.mk hp5
   have HP6 := Aside0.mk hp6
   have HP7 := Aside0.mk hp7
   have HT0 := Aside0.mk (show rec_rightTid.f x.f0.f0 x.f0.f1 = some t0 by rw [← ht0]; exact tid_f _ _)
   have HT2 := Aside0.mk (show rec_rightKeys.f 1000001 x.f5 = some t2 by rw [← ht2]; exact keys_f x.f5 1000001 (by omega) (by omega))
   have HT3 := Aside0.mk (show api_Tid_Elder.f y.f0 y.f1 x.f0.f0 x.f0.f1 = some t3 by rw [← ht3]; exact elder_f _ _ _ _)
   have HCK := Aside0.mk g6
   have HLK := Aside0.mk l6
   have y0 := up_cell hR.out.2 z0
   have y1 := up_cell hR.out.2 z1
   have y2 := up_cell hR.out.2 z2
   have y3 := up_cell hR.out.2 z3
   have y4 := up_cell hR.out.2 z4
   have y5 := up_cell hR.out.2 z5
   have y6 := up_cell hR.out.2 z6
   clear hx hy hx2 hfit hAT ht0 hn1 hc1 hc2' hc3 hc4 ht2 hn5 hq0 ht3 hn6 hp1 hp2 hp3 hp4 hp5 hp6 hp7 g6 l6 z0 z1 z2 z3 z4 z5 z6
   go_upto_region 4 with fail
   clear y0 y1 y2 y3 y4 y5 y6
   obtain ⟨KB, hKB⟩ : ∃ x : Nat, x = wr.heap.size := ⟨_, rfl⟩
   have BX := Aside0.mk (blk_new wr (.cells #[.int .u64 x.f0.f0, .int .i64 x.f0.f1, .int .u64 x.f1, .int .u64 x.f2, .int .i64 x.f3, .bool x.f4, .slice B6 x.f5.length b6] 56 (0, 0)))
   have HB := Aside0.mk (below_alloc hR.out.2 (.cells #[.int .u64 x.f0.f0, .int .i64 x.f0.f1, .int .u64 x.f1, .int .u64 x.f2, .int .i64 x.f3, .bool x.f4, .slice B6 x.f5.length b6] 56 (0, 0)))
   have HALL := Aside0.mk hR.out.1
   rw [← hKB] at BX ⊢
   generalize wr.alloc _ = wx at BX HB ⊢
   clear hKB hR
   refine start_ (n := 46) (S := fun w' => True) (ds := []) #[false, false, false, false, false, false, false, false, false, false, false, false, false, false, false, false, false, false, false, false, false, false, false, false, false, false, false, false, false, false, false, false, false, false, false, false, false, false, false, false, false, false, false, false, false, false] (by kernel_rfl) rfl rfl trivial (fun hHeld => ?_)
   refine with_tabW rctb4.tab4 rctb4.bits4 (fun HT_ HW_ => ?_)
   have n0_ := Aside0.mk (below_drew HB.out)
   have n1_ := Aside0.mk (blk_drew BX.out)
   clear HB BX
   generalize World.drew _ = wd at n0_ n1_ hHeld ⊢
   have HB := n0_
   have BX := n1_
   clear hHeld n0_ n1_
   refine inv_at [0, 1, 2, 3, 4, 5, 6, 7, 8, 9, 10, 11, 12, 13, 14, 15, 16, 17, 18, 19, 20, 21, 22, 23, 24, 25, 26, 27, 28, 29, 30, 31, 32, 33, 34, 35, 36, 37, 38, 39, 40, 41, 42, 43, 44, 45] (fun a0_ b a w' => a = putSel a0_ b [(0, 16, .pointer (some ⟨KB, 0, none⟩)), (1, 17, .agg #[.int .u64 x.f0.f0, .int .i64 x.f0.f1]), (2, 18, .bool t0), (3, 19, .bool t1), (4, 20, .bool t1), (5, 21, (cond t1 undef (.pointer (some ⟨KB, 2, none⟩)))), (6, 22, (cond t1 undef (.int .u64 x.f1))), (7, 23, (cond t1 undef (.bool c1))), (8, 24, .bool p1), (9, 25, .bool p1), (10, 26, (cond p1 undef (.pointer (some ⟨KB, 3, none⟩)))), (11, 27, (cond p1 undef (.int .u64 x.f2))), (12, 28, (cond p1 undef (.bool c2'))), (13, 29, .bool p2), (14, 30, .bool p2), (15, 31, (cond p2 undef (.pointer (some ⟨KB, 4, none⟩)))), (16, 32, (cond p2 undef (.int .i64 x.f3))), (17, 33, (cond p2 undef (.bool c3))), (18, 34, .bool p3), (19, 35, .bool p3), (20, 36, (cond p3 undef (.pointer (some ⟨KB, 4, none⟩)))), (21, 37, (cond p3 undef (.int .i64 x.f3))), (22, 38, (cond p3 undef (.bool c4))), (23, 39, .bool p4), (24, 40, .bool p4), (25, 41, (cond p4 undef (.pointer (some ⟨KB, 6, none⟩)))), (26, 42, (cond p4 undef (.slice B6 x.f5.length b6))), (27, 43, (cond p4 undef (.bool t2))), (28, 44, (cond p4 undef (.bool c5))), (29, 45, .bool p5), (30, 46, .bool p5), (31, 47, (cond p5 undef (.int .i64 (k : Int)))), (32, 48, (cond p5 undef (.bool q0))), (33, 49, (cond p5 undef (.bool q0))), (34, 50, (cond p5 undef ((cond q0 (.slice (some ad) l.length c) undef)))), (35, 51, (cond p5 undef ((cond q0 (.int .i64 (k : Int)) undef)))), (36, 52, (cond p5 undef ((cond q0 (.int .i64 ((k : Int) - 1)) undef)))), (37, 53, (cond p5 undef ((cond q0 (.pointer (some (ad.add ((k - 1) * 7)))) undef)))), (38, 54, (cond p5 undef ((cond q0 (.pointer (some (ad.add ((k - 1) * 7)))) undef)))), (39, 55, (cond p5 undef ((cond q0 (.agg #[.int .u64 y.f0, .int .i64 y.f1]) undef)))), (40, 56, (cond p5 undef ((cond q0 (.pointer (some ⟨KB, 0, none⟩)) undef)))), (41, 57, (cond p5 undef ((cond q0 (.agg #[.int .u64 x.f0.f0, .int .i64 x.f0.f1]) undef)))), (42, 58, (cond p5 undef ((cond q0 (.bool t3) undef)))), (43, 59, (cond p5 undef ((cond q0 (.bool c6) undef)))), (44, 60, (cond p5 undef (.bool c7))), (45, 61, .bool p6)] ∧ (Below w.heap.size w w') ∧ (w'.heap[KB]? = some (.cells #[.int .u64 x.f0.f0, .int .i64 x.f0.f1, .int .u64 x.f1, .int .u64 x.f2, .int .i64 x.f3, .bool x.f4, .slice B6 x.f5.length b6] 56 (0, 0)))) HT_.out HW_.out (by kernel_rfl) (by kernel_rfl) ?_ ?_ ?_
   ·exact ⟨by simp only [putSel, Bool.false_eq_true, if_false], HB.out, BX.out⟩
   ·skip
    clear BX HB
    refine steps_cons ?_ ?_
    ·rintro b a w' ⟨ha, Q_HB, Q_BX⟩ hb_ hon hoff
     refine ⟨_, rfl, fun K hK => ?_⟩
     have e6 : a.tmps[6]? = some (.pointer (some ⟨KB, 0, none⟩)) := by rw [ha]; exact (putSel_off rfl).trans rfl
     replace ha := Aside0.mk ha
     have HB := Aside0.mk Q_HB
     have BX := Aside0.mk Q_BX
     refine value_ (w1 := w') (v := .pointer (some ⟨KB, 0, none⟩)) (by rfl) rfl ?_ ?_
     ·go_simp
      (try simp only [i64_w])
      try rfl
     refine hK.out _ _ ⟨(by rw [ha.out]; exact putSel_upk 0 hb_ rfl rfl rfl), Q_HB, Q_BX⟩
    refine steps_cons ?_ ?_
    ·rintro b a w' ⟨ha, Q_HB, Q_BX⟩ hb_ hon hoff
     refine ⟨_, rfl, fun K hK => ?_⟩
     have e16 : a.tmps[16]? = some (.pointer (some ⟨KB, 0, none⟩)) := by rw [ha]; exact putSel_on (e := (0, 16, .pointer (some ⟨KB, 0, none⟩))) 0 rfl rfl (hon 0 (by kernel_rfl)) rfl
     replace ha := Aside0.mk ha
     have HB := Aside0.mk Q_HB
     have BX := Aside0.mk Q_BX
     have hc0_ : w'.cell? ⟨KB, 0, none⟩ = some (.int .u64 x.f0.f0) := (blk_cell BX.out 0).trans rfl
     have hc1_ : w'.cell? ⟨KB, 1, none⟩ = some (.int .i64 x.f0.f1) := (blk_cell BX.out 1).trans rfl
     refine value_ (w1 := w') (v := .agg #[.int .u64 x.f0.f0, .int .i64 x.f0.f1]) (by rfl) rfl ?_ ?_
     ·go_simp
      (try simp only [i64_w])
      try rfl
     refine hK.out _ _ ⟨(by rw [ha.out]; exact putSel_upk 1 hb_ rfl rfl rfl), Q_HB, Q_BX⟩
    refine steps_cons ?_ ?_
    ·rintro b a w' ⟨ha, Q_HB, Q_BX⟩ hb_ hon hoff
     refine ⟨_, rfl, fun K hK => ?_⟩
     have e17 : a.tmps[17]? = some (.agg #[.int .u64 x.f0.f0, .int .i64 x.f0.f1]) := by rw [ha]; exact putSel_on (e := (1, 17, .agg #[.int .u64 x.f0.f0, .int .i64 x.f0.f1])) 1 rfl rfl (hon 1 (by kernel_rfl)) rfl
     replace ha := Aside0.mk ha
     have HB := Aside0.mk Q_HB
     have BX := Aside0.mk Q_BX
     refine goes_ Try.func59 (by kernel_rfl) rfl #[.agg #[.int .u64 x.f0.f0, .int .i64 x.f0.f1]] (by rfl) rfl rfl (by first | (simp only [List.map_toArray, List.map_cons, List.map_nil, Act.eval, Array.getD_eq_getD_getElem?, Option.getD_some, e17]; done) | (simp only [List.map_toArray, List.map_cons, List.map_nil, Act.eval, Array.getD_eq_getD_getElem?, Option.getD_some, e17]; rfl)) ?_
     refine (rec_rightTid.calls x.f0.f0 x.f0.f1 t0 w' HT0.out).mono ?_
     rintro e_ wn_ ⟨rfl, hb2_⟩
     refine ⟨_, rfl, ?_⟩
     refine hK.out _ _ ⟨(by rw [ha.out]; exact putSel_upk 2 hb_ rfl rfl rfl), (below_step HB.out hb2_), ((hb2_.block KB (blk_lt BX.out)).trans BX.out)⟩
    refine steps_cons ?_ ?_
    ·rintro b a w' ⟨ha, Q_HB, Q_BX⟩ hb_ hon hoff
     refine ⟨_, rfl, fun K hK => ?_⟩
     have e18 : a.tmps[18]? = some (.bool t0) := by rw [ha]; exact putSel_on (e := (2, 18, .bool t0)) 2 rfl rfl (hon 2 (by kernel_rfl)) rfl
     replace ha := Aside0.mk ha
     have HB := Aside0.mk Q_HB
     have BX := Aside0.mk Q_BX
     have hq_ := HN1.out
     refine value_ (w1 := w') (v := .bool t1) (by rfl) rfl ?_ ?_
     ·go_simp
      (try simp only [i64_w])
      try rfl
     refine hK.out _ _ ⟨(by rw [ha.out]; exact putSel_upk 3 hb_ rfl rfl rfl), Q_HB, Q_BX⟩
    refine steps_cons ?_ ?_
    ·rintro b a w' ⟨ha, Q_HB, Q_BX⟩ hb_ hon hoff
     refine ⟨_, rfl, fun K hK => ?_⟩
     have e19 : a.tmps[19]? = some (.bool t1) := by rw [ha]; exact putSel_on (e := (3, 19, .bool t1)) 3 rfl rfl (hon 3 (by kernel_rfl)) rfl
     replace ha := Aside0.mk ha
     have HB := Aside0.mk Q_HB
     have BX := Aside0.mk Q_BX
     refine value_ (w1 := w') (v := .bool t1) (by rfl) rfl ?_ ?_
     ·go_simp
      (try simp only [i64_w])
      try rfl
     refine hK.out _ _ ⟨(by rw [ha.out]; exact putSel_upk 4 hb_ rfl rfl rfl), Q_HB, Q_BX⟩
    refine steps_cons ?_ ?_
    ·rintro b a w' ⟨ha, Q_HB, Q_BX⟩ hb_ hon hoff
     cases t1 with
     | true =>
      refine ⟨_, rfl, fun K hK => ?_⟩
      have e20 : a.tmps[20]? = some (.bool true) := by rw [ha]; exact putSel_on (e := (4, 20, .bool true)) 4 rfl rfl (hon 4 (by kernel_rfl)) rfl
      replace ha := Aside0.mk ha
      refine off_ (wanted_off rfl rfl rfl (e20.trans (by first | rfl | (simp [*]; done)))) ?_
      refine hK.out _ _ ⟨(by rw [ha.out]; exact putSel_upk 5 hb_ rfl rfl rfl), Q_HB, Q_BX⟩
     | false =>
      refine ⟨_, rfl, fun K hK => ?_⟩
      have e6 : a.tmps[6]? = some (.pointer (some ⟨KB, 0, none⟩)) := by rw [ha]; exact (putSel_off rfl).trans rfl
      have e20 : a.tmps[20]? = some (.bool false) := by rw [ha]; exact putSel_on (e := (4, 20, .bool false)) 4 rfl rfl (hon 4 (by kernel_rfl)) rfl
      replace ha := Aside0.mk ha
      have HB := Aside0.mk Q_HB
      have BX := Aside0.mk Q_BX
      refine value_ (w1 := w') (v := .pointer (some ⟨KB, 2, none⟩)) (wanted_on rfl rfl rfl (e20.trans (by first | rfl | (simp [*]; done)))) rfl ?_ ?_
      ·go_simp
       (try simp only [i64_w])
       try rfl
      refine hK.out _ _ ⟨(by rw [ha.out]; exact putSel_upk 5 hb_ rfl rfl rfl), Q_HB, Q_BX⟩
    refine steps_cons ?_ ?_
    ·rintro b a w' ⟨ha, Q_HB, Q_BX⟩ hb_ hon hoff
     cases t1 with
     | true =>
      refine ⟨_, rfl, fun K hK => ?_⟩
      have e20 : a.tmps[20]? = some (.bool true) := by rw [ha]; exact putSel_on (e := (4, 20, .bool true)) 4 rfl rfl (hon 4 (by kernel_rfl)) rfl
      replace ha := Aside0.mk ha
      refine off_ (wanted_off rfl rfl rfl (e20.trans (by first | rfl | (simp [*]; done)))) ?_
      refine hK.out _ _ ⟨(by rw [ha.out]; exact putSel_upk 6 hb_ rfl rfl rfl), Q_HB, Q_BX⟩
     | false =>
      refine ⟨_, rfl, fun K hK => ?_⟩
      have e21 : a.tmps[21]? = some (.pointer (some ⟨KB, 2, none⟩)) := by rw [ha]; exact putSel_on (e := (5, 21, .pointer (some ⟨KB, 2, none⟩))) 5 rfl rfl (hon 5 (by kernel_rfl)) rfl
      have e20 : a.tmps[20]? = some (.bool false) := by rw [ha]; exact putSel_on (e := (4, 20, .bool false)) 4 rfl rfl (hon 4 (by kernel_rfl)) rfl
      replace ha := Aside0.mk ha
      have HB := Aside0.mk Q_HB
      have BX := Aside0.mk Q_BX
      have hc2_ : w'.cell? ⟨KB, 2, none⟩ = some (.int .u64 x.f1) := (blk_cell BX.out 2).trans rfl
      refine value_ (w1 := w') (v := .int .u64 x.f1) (wanted_on rfl rfl rfl (e20.trans (by first | rfl | (simp [*]; done)))) rfl ?_ ?_
      ·go_simp
       (try simp only [i64_w])
       try rfl
      refine hK.out _ _ ⟨(by rw [ha.out]; exact putSel_upk 6 hb_ rfl rfl rfl), Q_HB, Q_BX⟩
    refine steps_cons ?_ ?_
    ·rintro b a w' ⟨ha, Q_HB, Q_BX⟩ hb_ hon hoff
     cases t1 with
     | true =>
      refine ⟨_, rfl, fun K hK => ?_⟩
      have e20 : a.tmps[20]? = some (.bool true) := by rw [ha]; exact putSel_on (e := (4, 20, .bool true)) 4 rfl rfl (hon 4 (by kernel_rfl)) rfl
      replace ha := Aside0.mk ha
      refine off_ (wanted_off rfl rfl rfl (e20.trans (by first | rfl | (simp [*]; done)))) ?_
      refine hK.out _ _ ⟨(by rw [ha.out]; exact putSel_upk 7 hb_ rfl rfl rfl), Q_HB, Q_BX⟩
     | false =>
      refine ⟨_, rfl, fun K hK => ?_⟩
      have e22 : a.tmps[22]? = some (.int .u64 x.f1) := by rw [ha]; exact putSel_on (e := (6, 22, .int .u64 x.f1)) 6 rfl rfl (hon 6 (by kernel_rfl)) rfl
      have e20 : a.tmps[20]? = some (.bool false) := by rw [ha]; exact putSel_on (e := (4, 20, .bool false)) 4 rfl rfl (hon 4 (by kernel_rfl)) rfl
      replace ha := Aside0.mk ha
      have HB := Aside0.mk Q_HB
      have BX := Aside0.mk Q_BX
      have hq_ := HC1.out
      refine value_ (w1 := w') (v := .bool c1) (wanted_on rfl rfl rfl (e20.trans (by first | rfl | (simp [*]; done)))) rfl ?_ ?_
      ·go_simp
       (try simp only [i64_w])
       try rfl
      refine hK.out _ _ ⟨(by rw [ha.out]; exact putSel_upk 7 hb_ rfl rfl rfl), Q_HB, Q_BX⟩
    refine steps_cons ?_ ?_
    ·rintro b a w' ⟨ha, Q_HB, Q_BX⟩ hb_ hon hoff
     cases t1 with
     | true =>
      obtain rfl : true = p1 := HP1.out.symm
      refine ⟨_, rfl, fun K hK => ?_⟩
      have e20 : a.tmps[20]? = some (.bool true) := by rw [ha]; exact putSel_on (e := (4, 20, .bool true)) 4 rfl rfl (hon 4 (by kernel_rfl)) rfl
      have e23 : a.tmps[23]? = some (undef) := by rw [ha]; exact putSel_on (e := (7, 23, undef)) 7 rfl rfl (hon 7 (by kernel_rfl)) rfl
      replace ha := Aside0.mk ha
      have HB := Aside0.mk Q_HB
      have BX := Aside0.mk Q_BX
      refine value_ (w1 := w') (v := .bool true) (by rfl) rfl ?_ ?_
      ·go_simp
       (try simp only [i64_w])
       try rfl
      refine hK.out _ _ ⟨(by rw [ha.out]; exact putSel_upk 8 hb_ rfl rfl rfl), Q_HB, Q_BX⟩
     | false =>
      obtain rfl : c1 = p1 := HP1.out.symm
      refine ⟨_, rfl, fun K hK => ?_⟩
      have e20 : a.tmps[20]? = some (.bool false) := by rw [ha]; exact putSel_on (e := (4, 20, .bool false)) 4 rfl rfl (hon 4 (by kernel_rfl)) rfl
      have e23 : a.tmps[23]? = some (.bool c1) := by rw [ha]; exact putSel_on (e := (7, 23, .bool c1)) 7 rfl rfl (hon 7 (by kernel_rfl)) rfl
      replace ha := Aside0.mk ha
      have HB := Aside0.mk Q_HB
      have BX := Aside0.mk Q_BX
      refine value_ (w1 := w') (v := .bool c1) (by rfl) rfl ?_ ?_
      ·go_simp
       (try simp only [i64_w])
       try rfl
      refine hK.out _ _ ⟨(by rw [ha.out]; exact putSel_upk 8 hb_ rfl rfl rfl), Q_HB, Q_BX⟩
    refine steps_cons ?_ ?_
    ·rintro b a w' ⟨ha, Q_HB, Q_BX⟩ hb_ hon hoff
     refine ⟨_, rfl, fun K hK => ?_⟩
     have e24 : a.tmps[24]? = some (.bool p1) := by rw [ha]; exact putSel_on (e := (8, 24, .bool p1)) 8 rfl rfl (hon 8 (by kernel_rfl)) rfl
     replace ha := Aside0.mk ha
     have HB := Aside0.mk Q_HB
     have BX := Aside0.mk Q_BX
     refine value_ (w1 := w') (v := .bool p1) (by rfl) rfl ?_ ?_
     ·go_simp
      (try simp only [i64_w])
      try rfl
     refine hK.out _ _ ⟨(by rw [ha.out]; exact putSel_upk 9 hb_ rfl rfl rfl), Q_HB, Q_BX⟩
    refine steps_cons ?_ ?_
    ·rintro b a w' ⟨ha, Q_HB, Q_BX⟩ hb_ hon hoff
     cases p1 with
     | true =>
      refine ⟨_, rfl, fun K hK => ?_⟩
      have e25 : a.tmps[25]? = some (.bool true) := by rw [ha]; exact putSel_on (e := (9, 25, .bool true)) 9 rfl rfl (hon 9 (by kernel_rfl)) rfl
      replace ha := Aside0.mk ha
      refine off_ (wanted_off rfl rfl rfl (e25.trans (by first | rfl | (simp [*]; done)))) ?_
      refine hK.out _ _ ⟨(by rw [ha.out]; exact putSel_upk 10 hb_ rfl rfl rfl), Q_HB, Q_BX⟩
     | false =>
      refine ⟨_, rfl, fun K hK => ?_⟩
      have e6 : a.tmps[6]? = some (.pointer (some ⟨KB, 0, none⟩)) := by rw [ha]; exact (putSel_off rfl).trans rfl
      have e25 : a.tmps[25]? = some (.bool false) := by rw [ha]; exact putSel_on (e := (9, 25, .bool false)) 9 rfl rfl (hon 9 (by kernel_rfl)) rfl
      replace ha := Aside0.mk ha
      have HB := Aside0.mk Q_HB
      have BX := Aside0.mk Q_BX
      refine value_ (w1 := w') (v := .pointer (some ⟨KB, 3, none⟩)) (wanted_on rfl rfl rfl (e25.trans (by first | rfl | (simp [*]; done)))) rfl ?_ ?_
      ·go_simp
       (try simp only [i64_w])
       try rfl
      refine hK.out _ _ ⟨(by rw [ha.out]; exact putSel_upk 10 hb_ rfl rfl rfl), Q_HB, Q_BX⟩
    refine steps_cons ?_ ?_
    ·rintro b a w' ⟨ha, Q_HB, Q_BX⟩ hb_ hon hoff
     cases p1 with
     | true =>
      refine ⟨_, rfl, fun K hK => ?_⟩
      have e25 : a.tmps[25]? = some (.bool true) := by rw [ha]; exact putSel_on (e := (9, 25, .bool true)) 9 rfl rfl (hon 9 (by kernel_rfl)) rfl
      replace ha := Aside0.mk ha
      refine off_ (wanted_off rfl rfl rfl (e25.trans (by first | rfl | (simp [*]; done)))) ?_
      refine hK.out _ _ ⟨(by rw [ha.out]; exact putSel_upk 11 hb_ rfl rfl rfl), Q_HB, Q_BX⟩
     | false =>
      refine ⟨_, rfl, fun K hK => ?_⟩
      have e26 : a.tmps[26]? = some (.pointer (some ⟨KB, 3, none⟩)) := by rw [ha]; exact putSel_on (e := (10, 26, .pointer (some ⟨KB, 3, none⟩))) 10 rfl rfl (hon 10 (by kernel_rfl)) rfl
      have e25 : a.tmps[25]? = some (.bool false) := by rw [ha]; exact putSel_on (e := (9, 25, .bool false)) 9 rfl rfl (hon 9 (by kernel_rfl)) rfl
      replace ha := Aside0.mk ha
      have HB := Aside0.mk Q_HB
      have BX := Aside0.mk Q_BX
      have hc3_ : w'.cell? ⟨KB, 3, none⟩ = some (.int .u64 x.f2) := (blk_cell BX.out 3).trans rfl
      refine value_ (w1 := w') (v := .int .u64 x.f2) (wanted_on rfl rfl rfl (e25.trans (by first | rfl | (simp [*]; done)))) rfl ?_ ?_
      ·go_simp
       (try simp only [i64_w])
       try rfl
      refine hK.out _ _ ⟨(by rw [ha.out]; exact putSel_upk 11 hb_ rfl rfl rfl), Q_HB, Q_BX⟩
    refine steps_cons ?_ ?_
    ·rintro b a w' ⟨ha, Q_HB, Q_BX⟩ hb_ hon hoff
     cases p1 with
     | true =>
      refine ⟨_, rfl, fun K hK => ?_⟩
      have e25 : a.tmps[25]? = some (.bool true) := by rw [ha]; exact putSel_on (e := (9, 25, .bool true)) 9 rfl rfl (hon 9 (by kernel_rfl)) rfl
      replace ha := Aside0.mk ha
      refine off_ (wanted_off rfl rfl rfl (e25.trans (by first | rfl | (simp [*]; done)))) ?_
      refine hK.out _ _ ⟨(by rw [ha.out]; exact putSel_upk 12 hb_ rfl rfl rfl), Q_HB, Q_BX⟩
     | false =>
      refine ⟨_, rfl, fun K hK => ?_⟩
      have e27 : a.tmps[27]? = some (.int .u64 x.f2) := by rw [ha]; exact putSel_on (e := (11, 27, .int .u64 x.f2)) 11 rfl rfl (hon 11 (by kernel_rfl)) rfl
      have e25 : a.tmps[25]? = some (.bool false) := by rw [ha]; exact putSel_on (e := (9, 25, .bool false)) 9 rfl rfl (hon 9 (by kernel_rfl)) rfl
      replace ha := Aside0.mk ha
      have HB := Aside0.mk Q_HB
      have BX := Aside0.mk Q_BX
      have hq_ := HC2.out
      refine value_ (w1 := w') (v := .bool c2') (wanted_on rfl rfl rfl (e25.trans (by first | rfl | (simp [*]; done)))) rfl ?_ ?_
      ·go_simp
       (try simp only [i64_w])
       try rfl
      refine hK.out _ _ ⟨(by rw [ha.out]; exact putSel_upk 12 hb_ rfl rfl rfl), Q_HB, Q_BX⟩
    refine steps_cons ?_ ?_
    ·rintro b a w' ⟨ha, Q_HB, Q_BX⟩ hb_ hon hoff
     cases p1 with
     | true =>
      obtain rfl : true = p2 := HP2.out.symm
      refine ⟨_, rfl, fun K hK => ?_⟩
      have e25 : a.tmps[25]? = some (.bool true) := by rw [ha]; exact putSel_on (e := (9, 25, .bool true)) 9 rfl rfl (hon 9 (by kernel_rfl)) rfl
      have e28 : a.tmps[28]? = some (undef) := by rw [ha]; exact putSel_on (e := (12, 28, undef)) 12 rfl rfl (hon 12 (by kernel_rfl)) rfl
      replace ha := Aside0.mk ha
      have HB := Aside0.mk Q_HB
      have BX := Aside0.mk Q_BX
      refine value_ (w1 := w') (v := .bool true) (by rfl) rfl ?_ ?_
      ·go_simp
       (try simp only [i64_w])
       try rfl
      refine hK.out _ _ ⟨(by rw [ha.out]; exact putSel_upk 13 hb_ rfl rfl rfl), Q_HB, Q_BX⟩
     | false =>
      obtain rfl : c2' = p2 := HP2.out.symm
      refine ⟨_, rfl, fun K hK => ?_⟩
      have e25 : a.tmps[25]? = some (.bool false) := by rw [ha]; exact putSel_on (e := (9, 25, .bool false)) 9 rfl rfl (hon 9 (by kernel_rfl)) rfl
      have e28 : a.tmps[28]? = some (.bool c2') := by rw [ha]; exact putSel_on (e := (12, 28, .bool c2')) 12 rfl rfl (hon 12 (by kernel_rfl)) rfl
      replace ha := Aside0.mk ha
      have HB := Aside0.mk Q_HB
      have BX := Aside0.mk Q_BX
      refine value_ (w1 := w') (v := .bool c2') (by rfl) rfl ?_ ?_
      ·go_simp
       (try simp only [i64_w])
       try rfl
      refine hK.out _ _ ⟨(by rw [ha.out]; exact putSel_upk 13 hb_ rfl rfl rfl), Q_HB, Q_BX⟩
    refine steps_cons ?_ ?_
    ·rintro b a w' ⟨ha, Q_HB, Q_BX⟩ hb_ hon hoff
     refine ⟨_, rfl, fun K hK => ?_⟩
     have e29 : a.tmps[29]? = some (.bool p2) := by rw [ha]; exact putSel_on (e := (13, 29, .bool p2)) 13 rfl rfl (hon 13 (by kernel_rfl)) rfl
     replace ha := Aside0.mk ha
     have HB := Aside0.mk Q_HB
     have BX := Aside0.mk Q_BX
     refine value_ (w1 := w') (v := .bool p2) (by rfl) rfl ?_ ?_
     ·go_simp
      (try simp only [i64_w])
      try rfl
     refine hK.out _ _ ⟨(by rw [ha.out]; exact putSel_upk 14 hb_ rfl rfl rfl), Q_HB, Q_BX⟩
    refine steps_cons ?_ ?_
    ·rintro b a w' ⟨ha, Q_HB, Q_BX⟩ hb_ hon hoff
     cases p2 with
     | true =>
      refine ⟨_, rfl, fun K hK => ?_⟩
      have e30 : a.tmps[30]? = some (.bool true) := by rw [ha]; exact putSel_on (e := (14, 30, .bool true)) 14 rfl rfl (hon 14 (by kernel_rfl)) rfl
      replace ha := Aside0.mk ha
      refine off_ (wanted_off rfl rfl rfl (e30.trans (by first | rfl | (simp [*]; done)))) ?_
      refine hK.out _ _ ⟨(by rw [ha.out]; exact putSel_upk 15 hb_ rfl rfl rfl), Q_HB, Q_BX⟩
     | false =>
      refine ⟨_, rfl, fun K hK => ?_⟩
      have e6 : a.tmps[6]? = some (.pointer (some ⟨KB, 0, none⟩)) := by rw [ha]; exact (putSel_off rfl).trans rfl
      have e30 : a.tmps[30]? = some (.bool false) := by rw [ha]; exact putSel_on (e := (14, 30, .bool false)) 14 rfl rfl (hon 14 (by kernel_rfl)) rfl
      replace ha := Aside0.mk ha
      have HB := Aside0.mk Q_HB
      have BX := Aside0.mk Q_BX
      refine value_ (w1 := w') (v := .pointer (some ⟨KB, 4, none⟩)) (wanted_on rfl rfl rfl (e30.trans (by first | rfl | (simp [*]; done)))) rfl ?_ ?_
      ·go_simp
       (try simp only [i64_w])
       try rfl
      refine hK.out _ _ ⟨(by rw [ha.out]; exact putSel_upk 15 hb_ rfl rfl rfl), Q_HB, Q_BX⟩
    refine steps_cons ?_ ?_
    ·rintro b a w' ⟨ha, Q_HB, Q_BX⟩ hb_ hon hoff
     cases p2 with
     | true =>
      refine ⟨_, rfl, fun K hK => ?_⟩
      have e30 : a.tmps[30]? = some (.bool true) := by rw [ha]; exact putSel_on (e := (14, 30, .bool true)) 14 rfl rfl (hon 14 (by kernel_rfl)) rfl
      replace ha := Aside0.mk ha
      refine off_ (wanted_off rfl rfl rfl (e30.trans (by first | rfl | (simp [*]; done)))) ?_
      refine hK.out _ _ ⟨(by rw [ha.out]; exact putSel_upk 16 hb_ rfl rfl rfl), Q_HB, Q_BX⟩
     | false =>
      refine ⟨_, rfl, fun K hK => ?_⟩
      have e31 : a.tmps[31]? = some (.pointer (some ⟨KB, 4, none⟩)) := by rw [ha]; exact putSel_on (e := (15, 31, .pointer (some ⟨KB, 4, none⟩))) 15 rfl rfl (hon 15 (by kernel_rfl)) rfl
      have e30 : a.tmps[30]? = some (.bool false) := by rw [ha]; exact putSel_on (e := (14, 30, .bool false)) 14 rfl rfl (hon 14 (by kernel_rfl)) rfl
      replace ha := Aside0.mk ha
      have HB := Aside0.mk Q_HB
      have BX := Aside0.mk Q_BX
      have hc4_ : w'.cell? ⟨KB, 4, none⟩ = some (.int .i64 x.f3) := (blk_cell BX.out 4).trans rfl
      refine value_ (w1 := w') (v := .int .i64 x.f3) (wanted_on rfl rfl rfl (e30.trans (by first | rfl | (simp [*]; done)))) rfl ?_ ?_
      ·go_simp
       (try simp only [i64_w])
       try rfl
      refine hK.out _ _ ⟨(by rw [ha.out]; exact putSel_upk 16 hb_ rfl rfl rfl), Q_HB, Q_BX⟩
    refine steps_cons ?_ ?_
    ·rintro b a w' ⟨ha, Q_HB, Q_BX⟩ hb_ hon hoff
     cases p2 with
     | true =>
      refine ⟨_, rfl, fun K hK => ?_⟩
      have e30 : a.tmps[30]? = some (.bool true) := by rw [ha]; exact putSel_on (e := (14, 30, .bool true)) 14 rfl rfl (hon 14 (by kernel_rfl)) rfl
      replace ha := Aside0.mk ha
      refine off_ (wanted_off rfl rfl rfl (e30.trans (by first | rfl | (simp [*]; done)))) ?_
      refine hK.out _ _ ⟨(by rw [ha.out]; exact putSel_upk 17 hb_ rfl rfl rfl), Q_HB, Q_BX⟩
     | false =>
      refine ⟨_, rfl, fun K hK => ?_⟩
      have e32 : a.tmps[32]? = some (.int .i64 x.f3) := by rw [ha]; exact putSel_on (e := (16, 32, .int .i64 x.f3)) 16 rfl rfl (hon 16 (by kernel_rfl)) rfl
      have e30 : a.tmps[30]? = some (.bool false) := by rw [ha]; exact putSel_on (e := (14, 30, .bool false)) 14 rfl rfl (hon 14 (by kernel_rfl)) rfl
      replace ha := Aside0.mk ha
      have HB := Aside0.mk Q_HB
      have BX := Aside0.mk Q_BX
      have hq_ := HC3.out
      refine value_ (w1 := w') (v := .bool c3) (wanted_on rfl rfl rfl (e30.trans (by first | rfl | (simp [*]; done)))) rfl ?_ ?_
      ·go_simp
       (try simp only [i64_w])
       try rfl
      refine hK.out _ _ ⟨(by rw [ha.out]; exact putSel_upk 17 hb_ rfl rfl rfl), Q_HB, Q_BX⟩
    refine steps_cons ?_ ?_
    ·rintro b a w' ⟨ha, Q_HB, Q_BX⟩ hb_ hon hoff
     cases p2 with
     | true =>
      obtain rfl : true = p3 := HP3.out.symm
      refine ⟨_, rfl, fun K hK => ?_⟩
      have e30 : a.tmps[30]? = some (.bool true) := by rw [ha]; exact putSel_on (e := (14, 30, .bool true)) 14 rfl rfl (hon 14 (by kernel_rfl)) rfl
      have e33 : a.tmps[33]? = some (undef) := by rw [ha]; exact putSel_on (e := (17, 33, undef)) 17 rfl rfl (hon 17 (by kernel_rfl)) rfl
      replace ha := Aside0.mk ha
      have HB := Aside0.mk Q_HB
      have BX := Aside0.mk Q_BX
      refine value_ (w1 := w') (v := .bool true) (by rfl) rfl ?_ ?_
      ·go_simp
       (try simp only [i64_w])
       try rfl
      refine hK.out _ _ ⟨(by rw [ha.out]; exact putSel_upk 18 hb_ rfl rfl rfl), Q_HB, Q_BX⟩
     | false =>
      obtain rfl : c3 = p3 := HP3.out.symm
      refine ⟨_, rfl, fun K hK => ?_⟩
      have e30 : a.tmps[30]? = some (.bool false) := by rw [ha]; exact putSel_on (e := (14, 30, .bool false)) 14 rfl rfl (hon 14 (by kernel_rfl)) rfl
      have e33 : a.tmps[33]? = some (.bool c3) := by rw [ha]; exact putSel_on (e := (17, 33, .bool c3)) 17 rfl rfl (hon 17 (by kernel_rfl)) rfl
      replace ha := Aside0.mk ha
      have HB := Aside0.mk Q_HB
      have BX := Aside0.mk Q_BX
      refine value_ (w1 := w') (v := .bool c3) (by rfl) rfl ?_ ?_
      ·go_simp
       (try simp only [i64_w])
       try rfl
      refine hK.out _ _ ⟨(by rw [ha.out]; exact putSel_upk 18 hb_ rfl rfl rfl), Q_HB, Q_BX⟩
    refine steps_cons ?_ ?_
    ·rintro b a w' ⟨ha, Q_HB, Q_BX⟩ hb_ hon hoff
     refine ⟨_, rfl, fun K hK => ?_⟩
     have e34 : a.tmps[34]? = some (.bool p3) := by rw [ha]; exact putSel_on (e := (18, 34, .bool p3)) 18 rfl rfl (hon 18 (by kernel_rfl)) rfl
     replace ha := Aside0.mk ha
     have HB := Aside0.mk Q_HB
     have BX := Aside0.mk Q_BX
     refine value_ (w1 := w') (v := .bool p3) (by rfl) rfl ?_ ?_
     ·go_simp
      (try simp only [i64_w])
      try rfl
     refine hK.out _ _ ⟨(by rw [ha.out]; exact putSel_upk 19 hb_ rfl rfl rfl), Q_HB, Q_BX⟩
    refine steps_cons ?_ ?_
    ·rintro b a w' ⟨ha, Q_HB, Q_BX⟩ hb_ hon hoff
     cases p3 with
     | true =>
      refine ⟨_, rfl, fun K hK => ?_⟩
      have e35 : a.tmps[35]? = some (.bool true) := by rw [ha]; exact putSel_on (e := (19, 35, .bool true)) 19 rfl rfl (hon 19 (by kernel_rfl)) rfl
      replace ha := Aside0.mk ha
      refine off_ (wanted_off rfl rfl rfl (e35.trans (by first | rfl | (simp [*]; done)))) ?_
      refine hK.out _ _ ⟨(by rw [ha.out]; exact putSel_upk 20 hb_ rfl rfl rfl), Q_HB, Q_BX⟩
     | false =>
      refine ⟨_, rfl, fun K hK => ?_⟩
      have e6 : a.tmps[6]? = some (.pointer (some ⟨KB, 0, none⟩)) := by rw [ha]; exact (putSel_off rfl).trans rfl
      have e35 : a.tmps[35]? = some (.bool false) := by rw [ha]; exact putSel_on (e := (19, 35, .bool false)) 19 rfl rfl (hon 19 (by kernel_rfl)) rfl
      replace ha := Aside0.mk ha
      have HB := Aside0.mk Q_HB
      have BX := Aside0.mk Q_BX
      refine value_ (w1 := w') (v := .pointer (some ⟨KB, 4, none⟩)) (wanted_on rfl rfl rfl (e35.trans (by first | rfl | (simp [*]; done)))) rfl ?_ ?_
      ·go_simp
       (try simp only [i64_w])
       try rfl
      refine hK.out _ _ ⟨(by rw [ha.out]; exact putSel_upk 20 hb_ rfl rfl rfl), Q_HB, Q_BX⟩
    refine steps_cons ?_ ?_
    ·rintro b a w' ⟨ha, Q_HB, Q_BX⟩ hb_ hon hoff
     cases p3 with
     | true =>
      refine ⟨_, rfl, fun K hK => ?_⟩
      have e35 : a.tmps[35]? = some (.bool true) := by rw [ha]; exact putSel_on (e := (19, 35, .bool true)) 19 rfl rfl (hon 19 (by kernel_rfl)) rfl
      replace ha := Aside0.mk ha
      refine off_ (wanted_off rfl rfl rfl (e35.trans (by first | rfl | (simp [*]; done)))) ?_
      refine hK.out _ _ ⟨(by rw [ha.out]; exact putSel_upk 21 hb_ rfl rfl rfl), Q_HB, Q_BX⟩
     | false =>
      refine ⟨_, rfl, fun K hK => ?_⟩
      have e36 : a.tmps[36]? = some (.pointer (some ⟨KB, 4, none⟩)) := by rw [ha]; exact putSel_on (e := (20, 36, .pointer (some ⟨KB, 4, none⟩))) 20 rfl rfl (hon 20 (by kernel_rfl)) rfl
      have e35 : a.tmps[35]? = some (.bool false) := by rw [ha]; exact putSel_on (e := (19, 35, .bool false)) 19 rfl rfl (hon 19 (by kernel_rfl)) rfl
      replace ha := Aside0.mk ha
      have HB := Aside0.mk Q_HB
      have BX := Aside0.mk Q_BX
      have hc4_ : w'.cell? ⟨KB, 4, none⟩ = some (.int .i64 x.f3) := (blk_cell BX.out 4).trans rfl
      refine value_ (w1 := w') (v := .int .i64 x.f3) (wanted_on rfl rfl rfl (e35.trans (by first | rfl | (simp [*]; done)))) rfl ?_ ?_
      ·go_simp
       (try simp only [i64_w])
       try rfl
      refine hK.out _ _ ⟨(by rw [ha.out]; exact putSel_upk 21 hb_ rfl rfl rfl), Q_HB, Q_BX⟩
    refine steps_cons ?_ ?_
    ·rintro b a w' ⟨ha, Q_HB, Q_BX⟩ hb_ hon hoff
     cases p3 with
     | true =>
      refine ⟨_, rfl, fun K hK => ?_⟩
      have e35 : a.tmps[35]? = some (.bool true) := by rw [ha]; exact putSel_on (e := (19, 35, .bool true)) 19 rfl rfl (hon 19 (by kernel_rfl)) rfl
      replace ha := Aside0.mk ha
      refine off_ (wanted_off rfl rfl rfl (e35.trans (by first | rfl | (simp [*]; done)))) ?_
      refine hK.out _ _ ⟨(by rw [ha.out]; exact putSel_upk 22 hb_ rfl rfl rfl), Q_HB, Q_BX⟩
     | false =>
      refine ⟨_, rfl, fun K hK => ?_⟩
      have e37 : a.tmps[37]? = some (.int .i64 x.f3) := by rw [ha]; exact putSel_on (e := (21, 37, .int .i64 x.f3)) 21 rfl rfl (hon 21 (by kernel_rfl)) rfl
      have e35 : a.tmps[35]? = some (.bool false) := by rw [ha]; exact putSel_on (e := (19, 35, .bool false)) 19 rfl rfl (hon 19 (by kernel_rfl)) rfl
      replace ha := Aside0.mk ha
      have HB := Aside0.mk Q_HB
      have BX := Aside0.mk Q_BX
      have hq_ := HC4.out
      refine value_ (w1 := w') (v := .bool c4) (wanted_on rfl rfl rfl (e35.trans (by first | rfl | (simp [*]; done)))) rfl ?_ ?_
      ·go_simp
       (try simp only [i64_w])
       try rfl
      refine hK.out _ _ ⟨(by rw [ha.out]; exact putSel_upk 22 hb_ rfl rfl rfl), Q_HB, Q_BX⟩
    refine steps_cons ?_ ?_
    ·rintro b a w' ⟨ha, Q_HB, Q_BX⟩ hb_ hon hoff
     cases p3 with
     | true =>
      obtain rfl : true = p4 := HP4.out.symm
      refine ⟨_, rfl, fun K hK => ?_⟩
      have e35 : a.tmps[35]? = some (.bool true) := by rw [ha]; exact putSel_on (e := (19, 35, .bool true)) 19 rfl rfl (hon 19 (by kernel_rfl)) rfl
      have e38 : a.tmps[38]? = some (undef) := by rw [ha]; exact putSel_on (e := (22, 38, undef)) 22 rfl rfl (hon 22 (by kernel_rfl)) rfl
      replace ha := Aside0.mk ha
      have HB := Aside0.mk Q_HB
      have BX := Aside0.mk Q_BX
      refine value_ (w1 := w') (v := .bool true) (by rfl) rfl ?_ ?_
      ·go_simp
       (try simp only [i64_w])
       try rfl
      refine hK.out _ _ ⟨(by rw [ha.out]; exact putSel_upk 23 hb_ rfl rfl rfl), Q_HB, Q_BX⟩
     | false =>
      obtain rfl : c4 = p4 := HP4.out.symm
      refine ⟨_, rfl, fun K hK => ?_⟩
      have e35 : a.tmps[35]? = some (.bool false) := by rw [ha]; exact putSel_on (e := (19, 35, .bool false)) 19 rfl rfl (hon 19 (by kernel_rfl)) rfl
      have e38 : a.tmps[38]? = some (.bool c4) := by rw [ha]; exact putSel_on (e := (22, 38, .bool c4)) 22 rfl rfl (hon 22 (by kernel_rfl)) rfl
      replace ha := Aside0.mk ha
      have HB := Aside0.mk Q_HB
      have BX := Aside0.mk Q_BX
      refine value_ (w1 := w') (v := .bool c4) (by rfl) rfl ?_ ?_
      ·go_simp
       (try simp only [i64_w])
       try rfl
      refine hK.out _ _ ⟨(by rw [ha.out]; exact putSel_upk 23 hb_ rfl rfl rfl), Q_HB, Q_BX⟩
    refine steps_cons ?_ ?_
    ·rintro b a w' ⟨ha, Q_HB, Q_BX⟩ hb_ hon hoff
     refine ⟨_, rfl, fun K hK => ?_⟩
     have e39 : a.tmps[39]? = some (.bool p4) := by rw [ha]; exact putSel_on (e := (23, 39, .bool p4)) 23 rfl rfl (hon 23 (by kernel_rfl)) rfl
     replace ha := Aside0.mk ha
     have HB := Aside0.mk Q_HB
     have BX := Aside0.mk Q_BX
     refine value_ (w1 := w') (v := .bool p4) (by rfl) rfl ?_ ?_
     ·go_simp
      (try simp only [i64_w])
      try rfl
     refine hK.out _ _ ⟨(by rw [ha.out]; exact putSel_upk 24 hb_ rfl rfl rfl), Q_HB, Q_BX⟩
    refine steps_cons ?_ ?_
    ·rintro b a w' ⟨ha, Q_HB, Q_BX⟩ hb_ hon hoff
     cases p4 with
     | true =>
      refine ⟨_, rfl, fun K hK => ?_⟩
      have e40 : a.tmps[40]? = some (.bool true) := by rw [ha]; exact putSel_on (e := (24, 40, .bool true)) 24 rfl rfl (hon 24 (by kernel_rfl)) rfl
      replace ha := Aside0.mk ha
      refine off_ (wanted_off rfl rfl rfl (e40.trans (by first | rfl | (simp [*]; done)))) ?_
      refine hK.out _ _ ⟨(by rw [ha.out]; exact putSel_upk 25 hb_ rfl rfl rfl), Q_HB, Q_BX⟩
     | false =>
      refine ⟨_, rfl, fun K hK => ?_⟩
      have e6 : a.tmps[6]? = some (.pointer (some ⟨KB, 0, none⟩)) := by rw [ha]; exact (putSel_off rfl).trans rfl
      have e40 : a.tmps[40]? = some (.bool false) := by rw [ha]; exact putSel_on (e := (24, 40, .bool false)) 24 rfl rfl (hon 24 (by kernel_rfl)) rfl
      replace ha := Aside0.mk ha
      have HB := Aside0.mk Q_HB
      have BX := Aside0.mk Q_BX
      refine value_ (w1 := w') (v := .pointer (some ⟨KB, 6, none⟩)) (wanted_on rfl rfl rfl (e40.trans (by first | rfl | (simp [*]; done)))) rfl ?_ ?_
      ·go_simp
       (try simp only [i64_w])
       try rfl
      refine hK.out _ _ ⟨(by rw [ha.out]; exact putSel_upk 25 hb_ rfl rfl rfl), Q_HB, Q_BX⟩
    refine steps_cons ?_ ?_
    ·rintro b a w' ⟨ha, Q_HB, Q_BX⟩ hb_ hon hoff
     cases p4 with
     | true =>
      refine ⟨_, rfl, fun K hK => ?_⟩
      have e40 : a.tmps[40]? = some (.bool true) := by rw [ha]; exact putSel_on (e := (24, 40, .bool true)) 24 rfl rfl (hon 24 (by kernel_rfl)) rfl
      replace ha := Aside0.mk ha
      refine off_ (wanted_off rfl rfl rfl (e40.trans (by first | rfl | (simp [*]; done)))) ?_
      refine hK.out _ _ ⟨(by rw [ha.out]; exact putSel_upk 26 hb_ rfl rfl rfl), Q_HB, Q_BX⟩
     | false =>
      refine ⟨_, rfl, fun K hK => ?_⟩
      have e41 : a.tmps[41]? = some (.pointer (some ⟨KB, 6, none⟩)) := by rw [ha]; exact putSel_on (e := (25, 41, .pointer (some ⟨KB, 6, none⟩))) 25 rfl rfl (hon 25 (by kernel_rfl)) rfl
      have e40 : a.tmps[40]? = some (.bool false) := by rw [ha]; exact putSel_on (e := (24, 40, .bool false)) 24 rfl rfl (hon 24 (by kernel_rfl)) rfl
      replace ha := Aside0.mk ha
      have HB := Aside0.mk Q_HB
      have BX := Aside0.mk Q_BX
      have hc6_ : w'.cell? ⟨KB, 6, none⟩ = some (.slice B6 x.f5.length b6) := (blk_cell BX.out 6).trans rfl
      refine value_ (w1 := w') (v := .slice B6 x.f5.length b6) (wanted_on rfl rfl rfl (e40.trans (by first | rfl | (simp [*]; done)))) rfl ?_ ?_
      ·go_simp
       (try simp only [i64_w])
       try rfl
      refine hK.out _ _ ⟨(by rw [ha.out]; exact putSel_upk 26 hb_ rfl rfl rfl), Q_HB, Q_BX⟩
    refine steps_cons ?_ ?_
    ·rintro b a w' ⟨ha, Q_HB, Q_BX⟩ hb_ hon hoff
     cases p4 with
     | true =>
      refine ⟨_, rfl, fun K hK => ?_⟩
      have e40 : a.tmps[40]? = some (.bool true) := by rw [ha]; exact putSel_on (e := (24, 40, .bool true)) 24 rfl rfl (hon 24 (by kernel_rfl)) rfl
      replace ha := Aside0.mk ha
      refine off_ (wanted_off rfl rfl rfl (e40.trans (by first | rfl | (simp [*]; done)))) ?_
      refine hK.out _ _ ⟨(by rw [ha.out]; exact putSel_upk 27 hb_ rfl rfl rfl), Q_HB, Q_BX⟩
     | false =>
      refine ⟨_, rfl, fun K hK => ?_⟩
      have e42 : a.tmps[42]? = some (.slice B6 x.f5.length b6) := by rw [ha]; exact putSel_on (e := (26, 42, .slice B6 x.f5.length b6)) 26 rfl rfl (hon 26 (by kernel_rfl)) rfl
      have e40 : a.tmps[40]? = some (.bool false) := by rw [ha]; exact putSel_on (e := (24, 40, .bool false)) 24 rfl rfl (hon 24 (by kernel_rfl)) rfl
      replace ha := Aside0.mk ha
      have HB := Aside0.mk Q_HB
      have BX := Aside0.mk Q_BX
      refine goes_ Try.func61 (by kernel_rfl) rfl #[.slice B6 x.f5.length b6] (wanted_on rfl rfl rfl (e40.trans (by first | rfl | (simp [*]; done)))) rfl rfl (by first | (simp only [List.map_toArray, List.map_cons, List.map_nil, Act.eval, Array.getD_eq_getD_getElem?, Option.getD_some, e42, e40]; done) | (simp only [List.map_toArray, List.map_cons, List.map_nil, Act.eval, Array.getD_eq_getD_getElem?, Option.getD_some, e42, e40]; rfl)) ?_
      refine (rec_rightKeys.calls 1000001 B6 b6 x.f5 t2 w' (Kd.C_below HCK.out HB.out) HLK.out HT2.out).mono ?_
      rintro e_ wn_ ⟨rfl, hb2_⟩
      refine ⟨_, rfl, ?_⟩
      refine hK.out _ _ ⟨(by rw [ha.out]; exact putSel_upk 27 hb_ rfl rfl rfl), (below_step HB.out hb2_.below), ((hb2_.below.block KB (blk_lt BX.out)).trans BX.out)⟩
    refine steps_cons ?_ ?_
    ·rintro b a w' ⟨ha, Q_HB, Q_BX⟩ hb_ hon hoff
     cases p4 with
     | true =>
      refine ⟨_, rfl, fun K hK => ?_⟩
      have e40 : a.tmps[40]? = some (.bool true) := by rw [ha]; exact putSel_on (e := (24, 40, .bool true)) 24 rfl rfl (hon 24 (by kernel_rfl)) rfl
      replace ha := Aside0.mk ha
      refine off_ (wanted_off rfl rfl rfl (e40.trans (by first | rfl | (simp [*]; done)))) ?_
      refine hK.out _ _ ⟨(by rw [ha.out]; exact putSel_upk 28 hb_ rfl rfl rfl), Q_HB, Q_BX⟩
     | false =>
      refine ⟨_, rfl, fun K hK => ?_⟩
      have e43 : a.tmps[43]? = some (.bool t2) := by rw [ha]; exact putSel_on (e := (27, 43, .bool t2)) 27 rfl rfl (hon 27 (by kernel_rfl)) rfl
      have e40 : a.tmps[40]? = some (.bool false) := by rw [ha]; exact putSel_on (e := (24, 40, .bool false)) 24 rfl rfl (hon 24 (by kernel_rfl)) rfl
      replace ha := Aside0.mk ha
      have HB := Aside0.mk Q_HB
      have BX := Aside0.mk Q_BX
      have hq_ := HN5.out
      refine value_ (w1 := w') (v := .bool c5) (wanted_on rfl rfl rfl (e40.trans (by first | rfl | (simp [*]; done)))) rfl ?_ ?_
      ·go_simp
       (try simp only [i64_w])
       try rfl
      refine hK.out _ _ ⟨(by rw [ha.out]; exact putSel_upk 28 hb_ rfl rfl rfl), Q_HB, Q_BX⟩
    refine steps_cons ?_ ?_
    ·rintro b a w' ⟨ha, Q_HB, Q_BX⟩ hb_ hon hoff
     cases p4 with
     | true =>
      obtain rfl : true = p5 := HP5.out.symm
      refine ⟨_, rfl, fun K hK => ?_⟩
      have e40 : a.tmps[40]? = some (.bool true) := by rw [ha]; exact putSel_on (e := (24, 40, .bool true)) 24 rfl rfl (hon 24 (by kernel_rfl)) rfl
      have e44 : a.tmps[44]? = some (undef) := by rw [ha]; exact putSel_on (e := (28, 44, undef)) 28 rfl rfl (hon 28 (by kernel_rfl)) rfl
      replace ha := Aside0.mk ha
      have HB := Aside0.mk Q_HB
      have BX := Aside0.mk Q_BX
      refine value_ (w1 := w') (v := .bool true) (by rfl) rfl ?_ ?_
      ·go_simp
       (try simp only [i64_w])
       try rfl
      refine hK.out _ _ ⟨(by rw [ha.out]; exact putSel_upk 29 hb_ rfl rfl rfl), Q_HB, Q_BX⟩
     | false =>
      obtain rfl : c5 = p5 := HP5.out.symm
      refine ⟨_, rfl, fun K hK => ?_⟩
      have e40 : a.tmps[40]? = some (.bool false) := by rw [ha]; exact putSel_on (e := (24, 40, .bool false)) 24 rfl rfl (hon 24 (by kernel_rfl)) rfl
      have e44 : a.tmps[44]? = some (.bool c5) := by rw [ha]; exact putSel_on (e := (28, 44, .bool c5)) 28 rfl rfl (hon 28 (by kernel_rfl)) rfl
      replace ha := Aside0.mk ha
      have HB := Aside0.mk Q_HB
      have BX := Aside0.mk Q_BX
      refine value_ (w1 := w') (v := .bool c5) (by rfl) rfl ?_ ?_
      ·go_simp
       (try simp only [i64_w])
       try rfl
      refine hK.out _ _ ⟨(by rw [ha.out]; exact putSel_upk 29 hb_ rfl rfl rfl), Q_HB, Q_BX⟩
    refine steps_cons ?_ ?_
    ·rintro b a w' ⟨ha, Q_HB, Q_BX⟩ hb_ hon hoff
     refine ⟨_, rfl, fun K hK => ?_⟩
     have e45 : a.tmps[45]? = some (.bool p5) := by rw [ha]; exact putSel_on (e := (29, 45, .bool p5)) 29 rfl rfl (hon 29 (by kernel_rfl)) rfl
     replace ha := Aside0.mk ha
     have HB := Aside0.mk Q_HB
     have BX := Aside0.mk Q_BX
     refine value_ (w1 := w') (v := .bool p5) (by rfl) rfl ?_ ?_
     ·go_simp
      (try simp only [i64_w])
      try rfl
     refine hK.out _ _ ⟨(by rw [ha.out]; exact putSel_upk 30 hb_ rfl rfl rfl), Q_HB, Q_BX⟩
    refine steps_cons ?_ ?_
    ·rintro b a w' ⟨ha, Q_HB, Q_BX⟩ hb_ hon hoff
     cases p5 with
     | true =>
      refine ⟨_, rfl, fun K hK => ?_⟩
      have e46 : a.tmps[46]? = some (.bool true) := by rw [ha]; exact putSel_on (e := (30, 46, .bool true)) 30 rfl rfl (hon 30 (by kernel_rfl)) rfl
      replace ha := Aside0.mk ha
      refine off_ (wanted_off rfl rfl rfl (e46.trans (by first | rfl | (simp [*]; done)))) ?_
      refine hK.out _ _ ⟨(by rw [ha.out]; exact putSel_upk 31 hb_ rfl rfl rfl), Q_HB, Q_BX⟩
     | false =>
      refine ⟨_, rfl, fun K hK => ?_⟩
      have e5 : a.tmps[5]? = some (.int .i64 (k : Int)) := by rw [ha]; exact (putSel_off rfl).trans rfl
      have e46 : a.tmps[46]? = some (.bool false) := by rw [ha]; exact putSel_on (e := (30, 46, .bool false)) 30 rfl rfl (hon 30 (by kernel_rfl)) rfl
      replace ha := Aside0.mk ha
      have HB := Aside0.mk Q_HB
      have BX := Aside0.mk Q_BX
      refine value_ (w1 := w') (v := .int .i64 (k : Int)) (wanted_on rfl rfl rfl (e46.trans (by first | rfl | (simp [*]; done)))) rfl ?_ ?_
      ·go_simp
       (try simp only [i64_w])
       try rfl
      refine hK.out _ _ ⟨(by rw [ha.out]; exact putSel_upk 31 hb_ rfl rfl rfl), Q_HB, Q_BX⟩
    refine steps_cons ?_ ?_
    ·rintro b a w' ⟨ha, Q_HB, Q_BX⟩ hb_ hon hoff
     cases p5 with
     | true =>
      refine ⟨_, rfl, fun K hK => ?_⟩
      have e46 : a.tmps[46]? = some (.bool true) := by rw [ha]; exact putSel_on (e := (30, 46, .bool true)) 30 rfl rfl (hon 30 (by kernel_rfl)) rfl
      replace ha := Aside0.mk ha
      refine off_ (wanted_off rfl rfl rfl (e46.trans (by first | rfl | (simp [*]; done)))) ?_
      refine hK.out _ _ ⟨(by rw [ha.out]; exact putSel_upk 32 hb_ rfl rfl rfl), Q_HB, Q_BX⟩
     | false =>
      refine ⟨_, rfl, fun K hK => ?_⟩
      have e47 : a.tmps[47]? = some (.int .i64 (k : Int)) := by rw [ha]; exact putSel_on (e := (31, 47, .int .i64 (k : Int))) 31 rfl rfl (hon 31 (by kernel_rfl)) rfl
      have e46 : a.tmps[46]? = some (.bool false) := by rw [ha]; exact putSel_on (e := (30, 46, .bool false)) 30 rfl rfl (hon 30 (by kernel_rfl)) rfl
      replace ha := Aside0.mk ha
      have HB := Aside0.mk Q_HB
      have BX := Aside0.mk Q_BX
      have hq_ : decide (0 < k) = q0 := by rw [← HQ0.out]; simp
      refine value_ (w1 := w') (v := .bool q0) (wanted_on rfl rfl rfl (e46.trans (by first | rfl | (simp [*]; done)))) rfl ?_ ?_
      ·go_simp
       (try simp only [i64_w])
       try rfl
      refine hK.out _ _ ⟨(by rw [ha.out]; exact putSel_upk 32 hb_ rfl rfl rfl), Q_HB, Q_BX⟩
    refine steps_cons ?_ ?_
    ·rintro b a w' ⟨ha, Q_HB, Q_BX⟩ hb_ hon hoff
     cases p5 with
     | true =>
      refine ⟨_, rfl, fun K hK => ?_⟩
      have e46 : a.tmps[46]? = some (.bool true) := by rw [ha]; exact putSel_on (e := (30, 46, .bool true)) 30 rfl rfl (hon 30 (by kernel_rfl)) rfl
      replace ha := Aside0.mk ha
      refine off_ (wanted_off rfl rfl rfl (e46.trans (by first | rfl | (simp [*]; done)))) ?_
      refine hK.out _ _ ⟨(by rw [ha.out]; exact putSel_upk 33 hb_ rfl rfl rfl), Q_HB, Q_BX⟩
     | false =>
      refine ⟨_, rfl, fun K hK => ?_⟩
      have e48 : a.tmps[48]? = some (.bool q0) := by rw [ha]; exact putSel_on (e := (32, 48, .bool q0)) 32 rfl rfl (hon 32 (by kernel_rfl)) rfl
      have e46 : a.tmps[46]? = some (.bool false) := by rw [ha]; exact putSel_on (e := (30, 46, .bool false)) 30 rfl rfl (hon 30 (by kernel_rfl)) rfl
      replace ha := Aside0.mk ha
      have HB := Aside0.mk Q_HB
      have BX := Aside0.mk Q_BX
      refine value_ (w1 := w') (v := .bool q0) (wanted_on rfl rfl rfl (e46.trans (by first | rfl | (simp [*]; done)))) rfl ?_ ?_
      ·go_simp
       (try simp only [i64_w])
       try rfl
      refine hK.out _ _ ⟨(by rw [ha.out]; exact putSel_upk 33 hb_ rfl rfl rfl), Q_HB, Q_BX⟩
    refine steps_cons ?_ ?_
    ·rintro b a w' ⟨ha, Q_HB, Q_BX⟩ hb_ hon hoff
     cases p5 with
     | true =>
      refine ⟨_, rfl, fun K hK => ?_⟩
      have e49 : a.tmps[49]? = some (undef) := by rw [ha]; exact putSel_on (e := (33, 49, undef)) 33 rfl rfl (hon 33 (by kernel_rfl)) rfl
      replace ha := Aside0.mk ha
      refine off_ (wanted_undef rfl rfl rfl (e49.trans (by first | rfl | (simp [*]; done)))) ?_
      refine hK.out _ _ ⟨(by rw [ha.out]; exact putSel_upk 34 hb_ rfl rfl rfl), Q_HB, Q_BX⟩
     | false =>
      cases q0 with
      | true =>
       refine ⟨_, rfl, fun K hK => ?_⟩
       have e0 : a.tmps[0]? = some (.slice (some ad) l.length c) := by rw [ha]; exact (putSel_off rfl).trans rfl
       have e49 : a.tmps[49]? = some (.bool true) := by rw [ha]; exact putSel_on (e := (33, 49, .bool true)) 33 rfl rfl (hon 33 (by kernel_rfl)) rfl
       replace ha := Aside0.mk ha
       have HB := Aside0.mk Q_HB
       have BX := Aside0.mk Q_BX
       refine value_ (w1 := w') (v := .slice (some ad) l.length c) (wanted_on rfl rfl rfl (e49.trans (by first | rfl | (simp [*]; done)))) rfl ?_ ?_
       ·go_simp
        (try simp only [i64_w])
        try rfl
       refine hK.out _ _ ⟨(by rw [ha.out]; exact putSel_upk 34 hb_ rfl rfl rfl), Q_HB, Q_BX⟩
      | false =>
       refine ⟨_, rfl, fun K hK => ?_⟩
       have e49 : a.tmps[49]? = some (.bool false) := by rw [ha]; exact putSel_on (e := (33, 49, .bool false)) 33 rfl rfl (hon 33 (by kernel_rfl)) rfl
       replace ha := Aside0.mk ha
       refine off_ (wanted_off rfl rfl rfl (e49.trans (by first | rfl | (simp [*]; done)))) ?_
       refine hK.out _ _ ⟨(by rw [ha.out]; exact putSel_upk 34 hb_ rfl rfl rfl), Q_HB, Q_BX⟩
    refine steps_cons ?_ ?_
    ·rintro b a w' ⟨ha, Q_HB, Q_BX⟩ hb_ hon hoff
     cases p5 with
     | true =>
      refine ⟨_, rfl, fun K hK => ?_⟩
      have e49 : a.tmps[49]? = some (undef) := by rw [ha]; exact putSel_on (e := (33, 49, undef)) 33 rfl rfl (hon 33 (by kernel_rfl)) rfl
      replace ha := Aside0.mk ha
      refine off_ (wanted_undef rfl rfl rfl (e49.trans (by first | rfl | (simp [*]; done)))) ?_
      refine hK.out _ _ ⟨(by rw [ha.out]; exact putSel_upk 35 hb_ rfl rfl rfl), Q_HB, Q_BX⟩
     | false =>
      cases q0 with
      | true =>
       refine ⟨_, rfl, fun K hK => ?_⟩
       have e5 : a.tmps[5]? = some (.int .i64 (k : Int)) := by rw [ha]; exact (putSel_off rfl).trans rfl
       have e49 : a.tmps[49]? = some (.bool true) := by rw [ha]; exact putSel_on (e := (33, 49, .bool true)) 33 rfl rfl (hon 33 (by kernel_rfl)) rfl
       replace ha := Aside0.mk ha
       have HB := Aside0.mk Q_HB
       have BX := Aside0.mk Q_BX
       refine value_ (w1 := w') (v := .int .i64 (k : Int)) (wanted_on rfl rfl rfl (e49.trans (by first | rfl | (simp [*]; done)))) rfl ?_ ?_
       ·go_simp
        (try simp only [i64_w])
        try rfl
       refine hK.out _ _ ⟨(by rw [ha.out]; exact putSel_upk 35 hb_ rfl rfl rfl), Q_HB, Q_BX⟩
      | false =>
       refine ⟨_, rfl, fun K hK => ?_⟩
       have e49 : a.tmps[49]? = some (.bool false) := by rw [ha]; exact putSel_on (e := (33, 49, .bool false)) 33 rfl rfl (hon 33 (by kernel_rfl)) rfl
       replace ha := Aside0.mk ha
       refine off_ (wanted_off rfl rfl rfl (e49.trans (by first | rfl | (simp [*]; done)))) ?_
       refine hK.out _ _ ⟨(by rw [ha.out]; exact putSel_upk 35 hb_ rfl rfl rfl), Q_HB, Q_BX⟩
    refine steps_cons ?_ ?_
    ·rintro b a w' ⟨ha, Q_HB, Q_BX⟩ hb_ hon hoff
     cases p5 with
     | true =>
      refine ⟨_, rfl, fun K hK => ?_⟩
      have e49 : a.tmps[49]? = some (undef) := by rw [ha]; exact putSel_on (e := (33, 49, undef)) 33 rfl rfl (hon 33 (by kernel_rfl)) rfl
      replace ha := Aside0.mk ha
      refine off_ (wanted_undef rfl rfl rfl (e49.trans (by first | rfl | (simp [*]; done)))) ?_
      refine hK.out _ _ ⟨(by rw [ha.out]; exact putSel_upk 36 hb_ rfl rfl rfl), Q_HB, Q_BX⟩
     | false =>
      cases q0 with
      | true =>
       refine ⟨_, rfl, fun K hK => ?_⟩
       have e51 : a.tmps[51]? = some (.int .i64 (k : Int)) := by rw [ha]; exact putSel_on (e := (35, 51, .int .i64 (k : Int))) 35 rfl rfl (hon 35 (by kernel_rfl)) rfl
       have e49 : a.tmps[49]? = some (.bool true) := by rw [ha]; exact putSel_on (e := (33, 49, .bool true)) 33 rfl rfl (hon 33 (by kernel_rfl)) rfl
       replace ha := Aside0.mk ha
       have HB := Aside0.mk Q_HB
       have BX := Aside0.mk Q_BX
       have hk_ : 1 ≤ k := by have h_ := of_decide_eq_true HQ0.out; omega
       have hw_ : IntKind.i64.wrap ((k : Int) - 1) = (k : Int) - 1 := by rw [i64_w]; unfold wrap64; omega
       refine value_ (w1 := w') (v := .int .i64 ((k : Int) - 1)) (wanted_on rfl rfl rfl (e49.trans (by first | rfl | (simp [*]; done)))) rfl ?_ ?_
       ·go_simp
        (try simp only [i64_w])
        try rfl
       refine hK.out _ _ ⟨(by rw [ha.out]; exact putSel_upk 36 hb_ rfl rfl rfl), Q_HB, Q_BX⟩
      | false =>
       refine ⟨_, rfl, fun K hK => ?_⟩
       have e49 : a.tmps[49]? = some (.bool false) := by rw [ha]; exact putSel_on (e := (33, 49, .bool false)) 33 rfl rfl (hon 33 (by kernel_rfl)) rfl
       replace ha := Aside0.mk ha
       refine off_ (wanted_off rfl rfl rfl (e49.trans (by first | rfl | (simp [*]; done)))) ?_
       refine hK.out _ _ ⟨(by rw [ha.out]; exact putSel_upk 36 hb_ rfl rfl rfl), Q_HB, Q_BX⟩
    refine steps_cons ?_ ?_
    ·rintro b a w' ⟨ha, Q_HB, Q_BX⟩ hb_ hon hoff
     cases p5 with
     | true =>
      refine ⟨_, rfl, fun K hK => ?_⟩
      have e49 : a.tmps[49]? = some (undef) := by rw [ha]; exact putSel_on (e := (33, 49, undef)) 33 rfl rfl (hon 33 (by kernel_rfl)) rfl
      replace ha := Aside0.mk ha
      refine off_ (wanted_undef rfl rfl rfl (e49.trans (by first | rfl | (simp [*]; done)))) ?_
      refine hK.out _ _ ⟨(by rw [ha.out]; exact putSel_upk 37 hb_ rfl rfl rfl), Q_HB, Q_BX⟩
     | false =>
      cases q0 with
      | true =>
       refine ⟨_, rfl, fun K hK => ?_⟩
       have e50 : a.tmps[50]? = some (.slice (some ad) l.length c) := by rw [ha]; exact putSel_on (e := (34, 50, .slice (some ad) l.length c)) 34 rfl rfl (hon 34 (by kernel_rfl)) rfl
       have e52 : a.tmps[52]? = some (.int .i64 ((k : Int) - 1)) := by rw [ha]; exact putSel_on (e := (36, 52, .int .i64 ((k : Int) - 1))) 36 rfl rfl (hon 36 (by kernel_rfl)) rfl
       have e49 : a.tmps[49]? = some (.bool true) := by rw [ha]; exact putSel_on (e := (33, 49, .bool true)) 33 rfl rfl (hon 33 (by kernel_rfl)) rfl
       replace ha := Aside0.mk ha
       have HB := Aside0.mk Q_HB
       have BX := Aside0.mk Q_BX
       have hk_ : 1 ≤ k := by have h_ := of_decide_eq_true HQ0.out; omega
       have hk2_ : ((k : Int) - 1).toNat = k - 1 := by omega
       have hk3_ : (1 : Int) ≤ (k : Int) := by omega
       have hk4_ : (k : Int) - 1 < (l.length : Int) := by omega
       refine value_ (w1 := w') (v := .pointer (some (ad.add ((k - 1) * 7)))) (wanted_on rfl rfl rfl (e49.trans (by first | rfl | (simp [*]; done)))) rfl ?_ ?_
       ·go_simp
        (try simp only [i64_w])
        try rfl
       refine hK.out _ _ ⟨(by rw [ha.out]; exact putSel_upk 37 hb_ rfl rfl rfl), Q_HB, Q_BX⟩
      | false =>
       refine ⟨_, rfl, fun K hK => ?_⟩
       have e49 : a.tmps[49]? = some (.bool false) := by rw [ha]; exact putSel_on (e := (33, 49, .bool false)) 33 rfl rfl (hon 33 (by kernel_rfl)) rfl
       replace ha := Aside0.mk ha
       refine off_ (wanted_off rfl rfl rfl (e49.trans (by first | rfl | (simp [*]; done)))) ?_
       refine hK.out _ _ ⟨(by rw [ha.out]; exact putSel_upk 37 hb_ rfl rfl rfl), Q_HB, Q_BX⟩
    refine steps_cons ?_ ?_
    ·rintro b a w' ⟨ha, Q_HB, Q_BX⟩ hb_ hon hoff
     cases p5 with
     | true =>
      refine ⟨_, rfl, fun K hK => ?_⟩
      have e49 : a.tmps[49]? = some (undef) := by rw [ha]; exact putSel_on (e := (33, 49, undef)) 33 rfl rfl (hon 33 (by kernel_rfl)) rfl
      replace ha := Aside0.mk ha
      refine off_ (wanted_undef rfl rfl rfl (e49.trans (by first | rfl | (simp [*]; done)))) ?_
      refine hK.out _ _ ⟨(by rw [ha.out]; exact putSel_upk 38 hb_ rfl rfl rfl), Q_HB, Q_BX⟩
     | false =>
      cases q0 with
      | true =>
       refine ⟨_, rfl, fun K hK => ?_⟩
       have e53 : a.tmps[53]? = some (.pointer (some (ad.add ((k - 1) * 7)))) := by rw [ha]; exact putSel_on (e := (37, 53, .pointer (some (ad.add ((k - 1) * 7))))) 37 rfl rfl (hon 37 (by kernel_rfl)) rfl
       have e49 : a.tmps[49]? = some (.bool true) := by rw [ha]; exact putSel_on (e := (33, 49, .bool true)) 33 rfl rfl (hon 33 (by kernel_rfl)) rfl
       replace ha := Aside0.mk ha
       have HB := Aside0.mk Q_HB
       have BX := Aside0.mk Q_BX
       refine value_ (w1 := w') (v := .pointer (some (ad.add ((k - 1) * 7)))) (wanted_on rfl rfl rfl (e49.trans (by first | rfl | (simp [*]; done)))) rfl ?_ ?_
       ·go_simp
        (try simp only [i64_w])
        try rfl
       refine hK.out _ _ ⟨(by rw [ha.out]; exact putSel_upk 38 hb_ rfl rfl rfl), Q_HB, Q_BX⟩
      | false =>
       refine ⟨_, rfl, fun K hK => ?_⟩
       have e49 : a.tmps[49]? = some (.bool false) := by rw [ha]; exact putSel_on (e := (33, 49, .bool false)) 33 rfl rfl (hon 33 (by kernel_rfl)) rfl
       replace ha := Aside0.mk ha
       refine off_ (wanted_off rfl rfl rfl (e49.trans (by first | rfl | (simp [*]; done)))) ?_
       refine hK.out _ _ ⟨(by rw [ha.out]; exact putSel_upk 38 hb_ rfl rfl rfl), Q_HB, Q_BX⟩
    refine steps_cons ?_ ?_
    ·rintro b a w' ⟨ha, Q_HB, Q_BX⟩ hb_ hon hoff
     cases p5 with
     | true =>
      refine ⟨_, rfl, fun K hK => ?_⟩
      have e49 : a.tmps[49]? = some (undef) := by rw [ha]; exact putSel_on (e := (33, 49, undef)) 33 rfl rfl (hon 33 (by kernel_rfl)) rfl
      replace ha := Aside0.mk ha
      refine off_ (wanted_undef rfl rfl rfl (e49.trans (by first | rfl | (simp [*]; done)))) ?_
      refine hK.out _ _ ⟨(by rw [ha.out]; exact putSel_upk 39 hb_ rfl rfl rfl), Q_HB, Q_BX⟩
     | false =>
      cases q0 with
      | true =>
       refine ⟨_, rfl, fun K hK => ?_⟩
       have e54 : a.tmps[54]? = some (.pointer (some (ad.add ((k - 1) * 7)))) := by rw [ha]; exact putSel_on (e := (38, 54, .pointer (some (ad.add ((k - 1) * 7))))) 38 rfl rfl (hon 38 (by kernel_rfl)) rfl
       have e49 : a.tmps[49]? = some (.bool true) := by rw [ha]; exact putSel_on (e := (33, 49, .bool true)) 33 rfl rfl (hon 33 (by kernel_rfl)) rfl
       replace ha := Aside0.mk ha
       have HB := Aside0.mk Q_HB
       have BX := Aside0.mk Q_BX
       have hy_ := HY.out (by have h_ := of_decide_eq_true HQ0.out; omega)
       have hy0_ := up_cell HB.out hy_.1
       have hy1_ := up_cell HB.out hy_.2
       refine value_ (w1 := w') (v := .agg #[.int .u64 y.f0, .int .i64 y.f1]) (wanted_on rfl rfl rfl (e49.trans (by first | rfl | (simp [*]; done)))) rfl ?_ ?_
       ·go_simp
        (try simp only [i64_w])
        try rfl
       refine hK.out _ _ ⟨(by rw [ha.out]; exact putSel_upk 39 hb_ rfl rfl rfl), Q_HB, Q_BX⟩
      | false =>
       refine ⟨_, rfl, fun K hK => ?_⟩
       have e49 : a.tmps[49]? = some (.bool false) := by rw [ha]; exact putSel_on (e := (33, 49, .bool false)) 33 rfl rfl (hon 33 (by kernel_rfl)) rfl
       replace ha := Aside0.mk ha
       refine off_ (wanted_off rfl rfl rfl (e49.trans (by first | rfl | (simp [*]; done)))) ?_
       refine hK.out _ _ ⟨(by rw [ha.out]; exact putSel_upk 39 hb_ rfl rfl rfl), Q_HB, Q_BX⟩
    refine steps_cons ?_ ?_
    ·rintro b a w' ⟨ha, Q_HB, Q_BX⟩ hb_ hon hoff
     cases p5 with
     | true =>
      refine ⟨_, rfl, fun K hK => ?_⟩
      have e49 : a.tmps[49]? = some (undef) := by rw [ha]; exact putSel_on (e := (33, 49, undef)) 33 rfl rfl (hon 33 (by kernel_rfl)) rfl
      replace ha := Aside0.mk ha
      refine off_ (wanted_undef rfl rfl rfl (e49.trans (by first | rfl | (simp [*]; done)))) ?_
      refine hK.out _ _ ⟨(by rw [ha.out]; exact putSel_upk 40 hb_ rfl rfl rfl), Q_HB, Q_BX⟩
     | false =>
      cases q0 with
      | true =>
       refine ⟨_, rfl, fun K hK => ?_⟩
       have e6 : a.tmps[6]? = some (.pointer (some ⟨KB, 0, none⟩)) := by rw [ha]; exact (putSel_off rfl).trans rfl
       have e49 : a.tmps[49]? = some (.bool true) := by rw [ha]; exact putSel_on (e := (33, 49, .bool true)) 33 rfl rfl (hon 33 (by kernel_rfl)) rfl
       replace ha := Aside0.mk ha
       have HB := Aside0.mk Q_HB
       have BX := Aside0.mk Q_BX
       refine value_ (w1 := w') (v := .pointer (some ⟨KB, 0, none⟩)) (wanted_on rfl rfl rfl (e49.trans (by first | rfl | (simp [*]; done)))) rfl ?_ ?_
       ·go_simp
        (try simp only [i64_w])
        try rfl
       refine hK.out _ _ ⟨(by rw [ha.out]; exact putSel_upk 40 hb_ rfl rfl rfl), Q_HB, Q_BX⟩
      | false =>
       refine ⟨_, rfl, fun K hK => ?_⟩
       have e49 : a.tmps[49]? = some (.bool false) := by rw [ha]; exact putSel_on (e := (33, 49, .bool false)) 33 rfl rfl (hon 33 (by kernel_rfl)) rfl
       replace ha := Aside0.mk ha
       refine off_ (wanted_off rfl rfl rfl (e49.trans (by first | rfl | (simp [*]; done)))) ?_
       refine hK.out _ _ ⟨(by rw [ha.out]; exact putSel_upk 40 hb_ rfl rfl rfl), Q_HB, Q_BX⟩
    refine steps_cons ?_ ?_
    ·rintro b a w' ⟨ha, Q_HB, Q_BX⟩ hb_ hon hoff
     cases p5 with
     | true =>
      refine ⟨_, rfl, fun K hK => ?_⟩
      have e49 : a.tmps[49]? = some (undef) := by rw [ha]; exact putSel_on (e := (33, 49, undef)) 33 rfl rfl (hon 33 (by kernel_rfl)) rfl
      replace ha := Aside0.mk ha
      refine off_ (wanted_undef rfl rfl rfl (e49.trans (by first | rfl | (simp [*]; done)))) ?_
      refine hK.out _ _ ⟨(by rw [ha.out]; exact putSel_upk 41 hb_ rfl rfl rfl), Q_HB, Q_BX⟩
     | false =>
      cases q0 with
      | true =>
       refine ⟨_, rfl, fun K hK => ?_⟩
       have e56 : a.tmps[56]? = some (.pointer (some ⟨KB, 0, none⟩)) := by rw [ha]; exact putSel_on (e := (40, 56, .pointer (some ⟨KB, 0, none⟩))) 40 rfl rfl (hon 40 (by kernel_rfl)) rfl
       have e49 : a.tmps[49]? = some (.bool true) := by rw [ha]; exact putSel_on (e := (33, 49, .bool true)) 33 rfl rfl (hon 33 (by kernel_rfl)) rfl
       replace ha := Aside0.mk ha
       have HB := Aside0.mk Q_HB
       have BX := Aside0.mk Q_BX
       have hc0_ : w'.cell? ⟨KB, 0, none⟩ = some (.int .u64 x.f0.f0) := (blk_cell BX.out 0).trans rfl
       have hc1_ : w'.cell? ⟨KB, 1, none⟩ = some (.int .i64 x.f0.f1) := (blk_cell BX.out 1).trans rfl
       refine value_ (w1 := w') (v := .agg #[.int .u64 x.f0.f0, .int .i64 x.f0.f1]) (wanted_on rfl rfl rfl (e49.trans (by first | rfl | (simp [*]; done)))) rfl ?_ ?_
       ·go_simp
        (try simp only [i64_w])
        try rfl
       refine hK.out _ _ ⟨(by rw [ha.out]; exact putSel_upk 41 hb_ rfl rfl rfl), Q_HB, Q_BX⟩
      | false =>
       refine ⟨_, rfl, fun K hK => ?_⟩
       have e49 : a.tmps[49]? = some (.bool false) := by rw [ha]; exact putSel_on (e := (33, 49, .bool false)) 33 rfl rfl (hon 33 (by kernel_rfl)) rfl
       replace ha := Aside0.mk ha
       refine off_ (wanted_off rfl rfl rfl (e49.trans (by first | rfl | (simp [*]; done)))) ?_
       refine hK.out _ _ ⟨(by rw [ha.out]; exact putSel_upk 41 hb_ rfl rfl rfl), Q_HB, Q_BX⟩
    refine steps_cons ?_ ?_
    ·rintro b a w' ⟨ha, Q_HB, Q_BX⟩ hb_ hon hoff
     cases p5 with
     | true =>
      refine ⟨_, rfl, fun K hK => ?_⟩
      have e49 : a.tmps[49]? = some (undef) := by rw [ha]; exact putSel_on (e := (33, 49, undef)) 33 rfl rfl (hon 33 (by kernel_rfl)) rfl
      replace ha := Aside0.mk ha
      refine off_ (wanted_undef rfl rfl rfl (e49.trans (by first | rfl | (simp [*]; done)))) ?_
      refine hK.out _ _ ⟨(by rw [ha.out]; exact putSel_upk 42 hb_ rfl rfl rfl), Q_HB, Q_BX⟩
     | false =>
      cases q0 with
      | true =>
       refine ⟨_, rfl, fun K hK => ?_⟩
       have e55 : a.tmps[55]? = some (.agg #[.int .u64 y.f0, .int .i64 y.f1]) := by rw [ha]; exact putSel_on (e := (39, 55, .agg #[.int .u64 y.f0, .int .i64 y.f1])) 39 rfl rfl (hon 39 (by kernel_rfl)) rfl
       have e57 : a.tmps[57]? = some (.agg #[.int .u64 x.f0.f0, .int .i64 x.f0.f1]) := by rw [ha]; exact putSel_on (e := (41, 57, .agg #[.int .u64 x.f0.f0, .int .i64 x.f0.f1])) 41 rfl rfl (hon 41 (by kernel_rfl)) rfl
       have e49 : a.tmps[49]? = some (.bool true) := by rw [ha]; exact putSel_on (e := (33, 49, .bool true)) 33 rfl rfl (hon 33 (by kernel_rfl)) rfl
       replace ha := Aside0.mk ha
       have HB := Aside0.mk Q_HB
       have BX := Aside0.mk Q_BX
       refine goes_ Try.func68 (by kernel_rfl) rfl #[.agg #[.int .u64 y.f0, .int .i64 y.f1], .agg #[.int .u64 x.f0.f0, .int .i64 x.f0.f1]] (wanted_on rfl rfl rfl (e49.trans (by first | rfl | (simp [*]; done)))) rfl rfl (by first | (simp only [List.map_toArray, List.map_cons, List.map_nil, Act.eval, Array.getD_eq_getD_getElem?, Option.getD_some, e55, e57, e49]; done) | (simp only [List.map_toArray, List.map_cons, List.map_nil, Act.eval, Array.getD_eq_getD_getElem?, Option.getD_some, e55, e57, e49]; rfl)) ?_
       refine (api_Tid_Elder.calls y.f0 y.f1 x.f0.f0 x.f0.f1 t3 w' HT3.out).mono ?_
       rintro e_ wn_ ⟨rfl, hb2_⟩
       refine ⟨_, rfl, ?_⟩
       refine hK.out _ _ ⟨(by rw [ha.out]; exact putSel_upk 42 hb_ rfl rfl rfl), (below_step HB.out hb2_), ((hb2_.block KB (blk_lt BX.out)).trans BX.out)⟩
      | false =>
       refine ⟨_, rfl, fun K hK => ?_⟩
       have e49 : a.tmps[49]? = some (.bool false) := by rw [ha]; exact putSel_on (e := (33, 49, .bool false)) 33 rfl rfl (hon 33 (by kernel_rfl)) rfl
       replace ha := Aside0.mk ha
       refine off_ (wanted_off rfl rfl rfl (e49.trans (by first | rfl | (simp [*]; done)))) ?_
       refine hK.out _ _ ⟨(by rw [ha.out]; exact putSel_upk 42 hb_ rfl rfl rfl), Q_HB, Q_BX⟩
    refine steps_cons ?_ ?_
    ·rintro b a w' ⟨ha, Q_HB, Q_BX⟩ hb_ hon hoff
     cases p5 with
     | true =>
      refine ⟨_, rfl, fun K hK => ?_⟩
      have e49 : a.tmps[49]? = some (undef) := by rw [ha]; exact putSel_on (e := (33, 49, undef)) 33 rfl rfl (hon 33 (by kernel_rfl)) rfl
      replace ha := Aside0.mk ha
      refine off_ (wanted_undef rfl rfl rfl (e49.trans (by first | rfl | (simp [*]; done)))) ?_
      refine hK.out _ _ ⟨(by rw [ha.out]; exact putSel_upk 43 hb_ rfl rfl rfl), Q_HB, Q_BX⟩
     | false =>
      cases q0 with
      | true =>
       refine ⟨_, rfl, fun K hK => ?_⟩
       have e58 : a.tmps[58]? = some (.bool t3) := by rw [ha]; exact putSel_on (e := (42, 58, .bool t3)) 42 rfl rfl (hon 42 (by kernel_rfl)) rfl
       have e49 : a.tmps[49]? = some (.bool true) := by rw [ha]; exact putSel_on (e := (33, 49, .bool true)) 33 rfl rfl (hon 33 (by kernel_rfl)) rfl
       replace ha := Aside0.mk ha
       have HB := Aside0.mk Q_HB
       have BX := Aside0.mk Q_BX
       have hq_ := HN6.out
       refine value_ (w1 := w') (v := .bool c6) (wanted_on rfl rfl rfl (e49.trans (by first | rfl | (simp [*]; done)))) rfl ?_ ?_
       ·go_simp
        (try simp only [i64_w])
        try rfl
       refine hK.out _ _ ⟨(by rw [ha.out]; exact putSel_upk 43 hb_ rfl rfl rfl), Q_HB, Q_BX⟩
      | false =>
       refine ⟨_, rfl, fun K hK => ?_⟩
       have e49 : a.tmps[49]? = some (.bool false) := by rw [ha]; exact putSel_on (e := (33, 49, .bool false)) 33 rfl rfl (hon 33 (by kernel_rfl)) rfl
       replace ha := Aside0.mk ha
       refine off_ (wanted_off rfl rfl rfl (e49.trans (by first | rfl | (simp [*]; done)))) ?_
       refine hK.out _ _ ⟨(by rw [ha.out]; exact putSel_upk 43 hb_ rfl rfl rfl), Q_HB, Q_BX⟩
    refine steps_cons ?_ ?_
    ·rintro b a w' ⟨ha, Q_HB, Q_BX⟩ hb_ hon hoff
     cases p5 with
     | true =>
      refine ⟨_, rfl, fun K hK => ?_⟩
      have e46 : a.tmps[46]? = some (.bool true) := by rw [ha]; exact putSel_on (e := (30, 46, .bool true)) 30 rfl rfl (hon 30 (by kernel_rfl)) rfl
      replace ha := Aside0.mk ha
      refine off_ (wanted_off rfl rfl rfl (e46.trans (by first | rfl | (simp [*]; done)))) ?_
      refine hK.out _ _ ⟨(by rw [ha.out]; exact putSel_upk 44 hb_ rfl rfl rfl), Q_HB, Q_BX⟩
     | false =>
      cases q0 with
      | true =>
       obtain rfl : c6 = c7 := HP7.out.symm
       refine ⟨_, rfl, fun K hK => ?_⟩
       have e49 : a.tmps[49]? = some (.bool true) := by rw [ha]; exact putSel_on (e := (33, 49, .bool true)) 33 rfl rfl (hon 33 (by kernel_rfl)) rfl
       have e59 : a.tmps[59]? = some (.bool c6) := by rw [ha]; exact putSel_on (e := (43, 59, .bool c6)) 43 rfl rfl (hon 43 (by kernel_rfl)) rfl
       have e46 : a.tmps[46]? = some (.bool false) := by rw [ha]; exact putSel_on (e := (30, 46, .bool false)) 30 rfl rfl (hon 30 (by kernel_rfl)) rfl
       replace ha := Aside0.mk ha
       have HB := Aside0.mk Q_HB
       have BX := Aside0.mk Q_BX
       refine value_ (w1 := w') (v := .bool c6) (wanted_on rfl rfl rfl (e46.trans (by first | rfl | (simp [*]; done)))) rfl ?_ ?_
       ·go_simp
        (try simp only [i64_w])
        try rfl
       refine hK.out _ _ ⟨(by rw [ha.out]; exact putSel_upk 44 hb_ rfl rfl rfl), Q_HB, Q_BX⟩
      | false =>
       obtain rfl : false = c7 := HP7.out.symm
       refine ⟨_, rfl, fun K hK => ?_⟩
       have e49 : a.tmps[49]? = some (.bool false) := by rw [ha]; exact putSel_on (e := (33, 49, .bool false)) 33 rfl rfl (hon 33 (by kernel_rfl)) rfl
       have e59 : a.tmps[59]? = some (undef) := by rw [ha]; exact putSel_on (e := (43, 59, undef)) 43 rfl rfl (hon 43 (by kernel_rfl)) rfl
       have e46 : a.tmps[46]? = some (.bool false) := by rw [ha]; exact putSel_on (e := (30, 46, .bool false)) 30 rfl rfl (hon 30 (by kernel_rfl)) rfl
       replace ha := Aside0.mk ha
       have HB := Aside0.mk Q_HB
       have BX := Aside0.mk Q_BX
       refine value_ (w1 := w') (v := .bool false) (wanted_on rfl rfl rfl (e46.trans (by first | rfl | (simp [*]; done)))) rfl ?_ ?_
       ·go_simp
        (try simp only [i64_w])
        try rfl
       refine hK.out _ _ ⟨(by rw [ha.out]; exact putSel_upk 44 hb_ rfl rfl rfl), Q_HB, Q_BX⟩
    refine steps_cons ?_ ?_
    ·rintro b a w' ⟨ha, Q_HB, Q_BX⟩ hb_ hon hoff
     cases p5 with
     | true =>
      obtain rfl : true = p6 := HP6.out.symm
      refine ⟨_, rfl, fun K hK => ?_⟩
      have e46 : a.tmps[46]? = some (.bool true) := by rw [ha]; exact putSel_on (e := (30, 46, .bool true)) 30 rfl rfl (hon 30 (by kernel_rfl)) rfl
      have e60 : a.tmps[60]? = some (undef) := by rw [ha]; exact putSel_on (e := (44, 60, undef)) 44 rfl rfl (hon 44 (by kernel_rfl)) rfl
      replace ha := Aside0.mk ha
      have HB := Aside0.mk Q_HB
      have BX := Aside0.mk Q_BX
      refine value_ (w1 := w') (v := .bool true) (by rfl) rfl ?_ ?_
      ·go_simp
       (try simp only [i64_w])
       try rfl
      refine hK.out _ _ ⟨(by rw [ha.out]; exact putSel_upk 45 hb_ rfl rfl rfl), Q_HB, Q_BX⟩
     | false =>
      obtain rfl : c7 = p6 := HP6.out.symm
      refine ⟨_, rfl, fun K hK => ?_⟩
      have e46 : a.tmps[46]? = some (.bool false) := by rw [ha]; exact putSel_on (e := (30, 46, .bool false)) 30 rfl rfl (hon 30 (by kernel_rfl)) rfl
      have e60 : a.tmps[60]? = some (.bool c7) := by rw [ha]; exact putSel_on (e := (44, 60, .bool c7)) 44 rfl rfl (hon 44 (by kernel_rfl)) rfl
      replace ha := Aside0.mk ha
      have HB := Aside0.mk Q_HB
      have BX := Aside0.mk Q_BX
      refine value_ (w1 := w') (v := .bool c7) (by rfl) rfl ?_ ?_
      ·go_simp
       (try simp only [i64_w])
       try rfl
      refine hK.out _ _ ⟨(by rw [ha.out]; exact putSel_upk 45 hb_ rfl rfl rfl), Q_HB, Q_BX⟩
    exact steps_nil
   rintro b a w' hall ⟨ha, Q_HB, Q_BX⟩
   clear BX HB
   have hb0_ := hall 0 (by kernel_rfl)
   have hb1_ := hall 1 (by kernel_rfl)
   have hb2_ := hall 2 (by kernel_rfl)
   have hb3_ := hall 3 (by kernel_rfl)
   have hb4_ := hall 4 (by kernel_rfl)
   have hb5_ := hall 5 (by kernel_rfl)
   have hb6_ := hall 6 (by kernel_rfl)
   have hb7_ := hall 7 (by kernel_rfl)
   have hb8_ := hall 8 (by kernel_rfl)
   have hb9_ := hall 9 (by kernel_rfl)
   have hb10_ := hall 10 (by kernel_rfl)
   have hb11_ := hall 11 (by kernel_rfl)
   have hb12_ := hall 12 (by kernel_rfl)
   have hb13_ := hall 13 (by kernel_rfl)
   have hb14_ := hall 14 (by kernel_rfl)
   have hb15_ := hall 15 (by kernel_rfl)
   have hb16_ := hall 16 (by kernel_rfl)
   have hb17_ := hall 17 (by kernel_rfl)
   have hb18_ := hall 18 (by kernel_rfl)
   have hb19_ := hall 19 (by kernel_rfl)
   have hb20_ := hall 20 (by kernel_rfl)
   have hb21_ := hall 21 (by kernel_rfl)
   have hb22_ := hall 22 (by kernel_rfl)
   have hb23_ := hall 23 (by kernel_rfl)
   have hb24_ := hall 24 (by kernel_rfl)
   have hb25_ := hall 25 (by kernel_rfl)
   have hb26_ := hall 26 (by kernel_rfl)
   have hb27_ := hall 27 (by kernel_rfl)
   have hb28_ := hall 28 (by kernel_rfl)
   have hb29_ := hall 29 (by kernel_rfl)
   have hb30_ := hall 30 (by kernel_rfl)
   have hb31_ := hall 31 (by kernel_rfl)
   have hb32_ := hall 32 (by kernel_rfl)
   have hb33_ := hall 33 (by kernel_rfl)
   have hb34_ := hall 34 (by kernel_rfl)
   have hb35_ := hall 35 (by kernel_rfl)
   have hb36_ := hall 36 (by kernel_rfl)
   have hb37_ := hall 37 (by kernel_rfl)
   have hb38_ := hall 38 (by kernel_rfl)
   have hb39_ := hall 39 (by kernel_rfl)
   have hb40_ := hall 40 (by kernel_rfl)
   have hb41_ := hall 41 (by kernel_rfl)
   have hb42_ := hall 42 (by kernel_rfl)
   have hb43_ := hall 43 (by kernel_rfl)
   have hb44_ := hall 44 (by kernel_rfl)
   have hb45_ := hall 45 (by kernel_rfl)
   subst ha
   simp only [putSel, hb0_, hb1_, hb2_, hb3_, hb4_, hb5_, hb6_, hb7_, hb8_, hb9_, hb10_, hb11_, hb12_, hb13_, hb14_, hb15_, hb16_, hb17_, hb18_, hb19_, hb20_, hb21_, hb22_, hb23_, hb24_, hb25_, hb26_, hb27_, hb28_, hb29_, hb30_, hb31_, hb32_, hb33_, hb34_, hb35_, hb36_, hb37_, hb38_, hb39_, hb40_, hb41_, hb42_, hb43_, hb44_, hb45_, if_true, Act.put, List.setIfInBounds_toArray, List.set_cons_zero, List.set_cons_succ]
   have HB := Aside0.mk Q_HB
   clear Q_HB
   have BX := Aside0.mk Q_BX
   clear Q_BX
   clear hall hb0_ hb1_ hb2_ hb3_ hb4_ hb5_ hb6_ hb7_ hb8_ hb9_ hb10_ hb11_ hb12_ hb13_ hb14_ hb15_ hb16_ hb17_ hb18_ hb19_ hb20_ hb21_ hb22_ hb23_ hb24_ hb25_ hb26_ hb27_ hb28_ hb29_ hb30_ hb31_ hb32_ hb33_ hb34_ hb35_ hb36_ hb37_ hb38_ hb39_ hb40_ hb41_ hb42_ hb43_ hb44_ hb45_
   cases p6 with
   | true =>
    have HNO := Aside0.mk (show tableB l l2 = false by
     unfold tableB
     rw [show (List.range l.length).all (opnAt l) = false from List.all_eq_false.2 ⟨k, List.mem_range.2 hlt, by rw [HLAST.out]; decide⟩]
     rfl)
    clear BX
    go_wp2
    go_ret
    exact ⟨by rw [HNO.out]; rfl, HB.out⟩
   | false =>
    have HALL2 := Aside0.mk (show ∀ j, j < k + 1 → opnAt l j = true from fun j hj => by
     rcases Nat.lt_or_ge j k with h | h
     ·exact HALL.out j h
     ·obtain rfl : j = k := by omega
      rw [HLAST.out]; rfl)
    clear BX
    go_wp2
    go_roundw
    case rel => exact ⟨k + 1, hlt, by go_num, ⟨HALL2.out, HB.out⟩⟩
    case measure => simp [intOf]; omega
  ·obtain rfl : k = l.length := by omega
   have HYES := Aside0.mk (show tableB l l2 = ((List.range l2.length).all (dnAt l2) && (decide (l.length ≤ 200) && decide (l2.length ≤ 200))) by
    unfold tableB
    rw [show (List.range l.length).all (opnAt l) = true from List.all_eq_true.2 (fun j hj => hR.out.1 j (List.mem_range.1 hj))]
    rfl)
   have HB0 := Aside0.mk hR.out.2
   clear hR
   go_wp2
   go_loopw [65] (fun i wr => ∃ k : Nat, k ≤ l2.length ∧ i = .int .i64 k ∧ Aside0 ((∀ j, j < k → dnAt l2 j = true) ∧ Below w.heap.size w wr)) (fun i _ => l2.length - (intOf i).toNat)
   case atStart => exact ⟨0, Nat.zero_le _, rfl, ⟨fun j hj => by omega, HB0.out⟩⟩
   case round =>
    obtain ⟨k, hk, rfl, hR⟩ := hrel
    by_cases hlt : k < l2.length
    ·obtain ⟨ad, B2, b2, hA, z0, z1, z2, l6, g6⟩ := at_T58 HD.out (k : Int) (by omega) (by omega)
     subst hA
     rw [Int.toNat_natCast] at z0 z1 z2
     have HY := Aside0.mk (show 1 ≤ k → w.cell? (ad.add ((k - 1) * 3)) = some (.int .u64 (rd_T58 l2 ((k : Int) - 1)).f0.f0) ∧ w.cell? ⟨(ad.add ((k - 1) * 3)).block, (ad.add ((k - 1) * 3)).off + 1, none⟩ = some (.int .i64 (rd_T58 l2 ((k : Int) - 1)).f0.f1) from fun hk1 => by
      obtain ⟨ad', _, _, hA', y0, y1, _⟩ := at_T58 HD.out ((k : Int) - 1) (by omega) (by omega)
      injection hA' with hA'
      rw [hA', show ((k : Int) - 1).toNat = k - 1 by omega] at *
      exact ⟨y0, y1⟩)
     have hx2 : (rd_T58 l2 (k : Int)) ∈ l2 := by unfold rd_T58; rw [Int.toNat_natCast]; simp [List.getD_eq_getElem?_getD, List.getElem?_eq_getElem hlt]
     have hfit := HF2.out _ hx2
     have hAT : dnAt l2 k = dnAt l2 k := rfl
     conv at hAT => rhs; unfold dnAt
     obtain ⟨y, hy⟩ : ∃ y, y = (rd_T58 l2 ((k : Int) - 1)).f0 := ⟨_, rfl⟩
     obtain ⟨x, hx⟩ : ∃ x, x = rd_T58 l2 (k : Int) := ⟨_, rfl⟩
     rw [← hy] at HY hAT
     rw [← hx] at z0 z1 z2 l6 g6 hfit hAT
     obtain ⟨t0, ht0⟩ : ∃ b, tB x.f0 = b := ⟨_, rfl⟩
     obtain ⟨t1, hn1⟩ : ∃ b, (!t0) = b := ⟨_, rfl⟩
     obtain ⟨t2, ht2⟩ : ∃ b, nodesB x.f1 = b := ⟨_, rfl⟩
     obtain ⟨c5, hn5⟩ : ∃ b, (!t2) = b := ⟨_, rfl⟩
     obtain ⟨q0, hq0⟩ : ∃ b, decide ((0 : Int) < (k : Int)) = b := ⟨_, rfl⟩
     obtain ⟨t3, ht3⟩ : ∃ b, eB y x.f0 = b := ⟨_, rfl⟩
     obtain ⟨c6, hn6⟩ : ∃ b, (!t3) = b := ⟨_, rfl⟩
     obtain ⟨p1, hp1⟩ : ∃ b, b = (t1 || c5) := ⟨_, rfl⟩
     obtain ⟨c7, hp3⟩ : ∃ b, b = (q0 && c6) := ⟨_, rfl⟩
     obtain ⟨p2, hp2⟩ : ∃ b, b = (p1 || c7) := ⟨_, rfl⟩
     rw [ht0, hn1, ht2, hn5, hq0, ht3, hn6, ← hp1, ← hp3, ← hp2] at hAT
     have HLAST := Aside0.mk hAT
     have HN1 := Aside0.mk hn1
     have HN5 := Aside0.mk hn5
     have HQ0 := Aside0.mk hq0
     have HN6 := Aside0.mk hn6
     have HP1 := Aside0.mk hp1
     have HP2 := Aside0.mk hp2
     have HP3 := Aside0.mk hp3
     have HT0 := Aside0.mk (show rec_rightTid.f x.f0.f0 x.f0.f1 = some t0 by rw [← ht0]; exact tid_f _ _)
     have HT2 := Aside0.mk (show rec_risingNodes.f 1000001 x.f1 = some t2 by rw [← ht2]; exact nodes_f x.f1 1000001 (by omega) (by omega))
     have HT3 := Aside0.mk (show api_Tid_Elder.f y.f0 y.f1 x.f0.f0 x.f0.f1 = some t3 by rw [← ht3]; exact elder_f _ _ _ _)
     have HCK := Aside0.mk g6
     have HLK := Aside0.mk l6
     have y0 := up_cell hR.out.2 z0
     have y1 := up_cell hR.out.2 z1
     have y2 := up_cell hR.out.2 z2
     clear hx hy hx2 hfit hAT ht0 hn1 ht2 hn5 hq0 ht3 hn6 hp1 hp2 hp3 g6 l6 z0 z1 z2
     go_upto_region 10 with fail
     clear y0 y1 y2
     obtain ⟨KB, hKB⟩ : ∃ x : Nat, x = wr.heap.size := ⟨_, rfl⟩
     have BX := Aside0.mk (blk_new wr (.cells #[.int .u64 x.f0.f0, .int .i64 x.f0.f1, .slice B2 x.f1.length b2] 58 (0, 0)))
     have HB := Aside0.mk (below_alloc hR.out.2 (.cells #[.int .u64 x.f0.f0, .int .i64 x.f0.f1, .slice B2 x.f1.length b2] 58 (0, 0)))
     have HALL := Aside0.mk hR.out.1
     rw [← hKB] at BX ⊢
     generalize wr.alloc _ = wx at BX HB ⊢
     clear hKB hR HB0
     refine start_ (n := 26) (S := fun w' => True) (ds := []) #[false, false, false, false, false, false, false, false, false, false, false, false, false, false, false, false, false, false, false, false, false, false, false, false, false, false] (by kernel_rfl) rfl rfl trivial (fun hHeld => ?_)
     refine with_tabW rctb10.tab10 rctb10.bits10 (fun HT_ HW_ => ?_)
     have n0_ := Aside0.mk (below_drew HB.out)
     have n1_ := Aside0.mk (blk_drew BX.out)
     clear HB BX
     generalize World.drew _ = wd at n0_ n1_ hHeld ⊢
     have HB := n0_
     have BX := n1_
     clear hHeld n0_ n1_
     refine inv_at [0, 1, 2, 3, 4, 5, 6, 7, 8, 9, 10, 11, 12, 13, 14, 15, 16, 17, 18, 19, 20, 21, 22, 23, 24, 25] (fun a0_ b a w' => a = putSel a0_ b [(0, 70, .pointer (some ⟨KB, 0, none⟩)), (1, 71, .agg #[.int .u64 x.f0.f0, .int .i64 x.f0.f1]), (2, 72, .bool t0), (3, 73, .bool t1), (4, 74, .bool t1), (5, 75, (cond t1 undef (.pointer (some ⟨KB, 2, none⟩)))), (6, 76, (cond t1 undef (.slice B2 x.f1.length b2))), (7, 77, (cond t1 undef (.bool t2))), (8, 78, (cond t1 undef (.bool c5))), (9, 79, .bool p1), (10, 80, .bool p1), (11, 81, (cond p1 undef (.int .i64 (k : Int)))), (12, 82, (cond p1 undef (.bool q0))), (13, 83, (cond p1 undef (.bool q0))), (14, 84, (cond p1 undef ((cond q0 (.slice (some ad) l2.length c2) undef)))), (15, 85, (cond p1 undef ((cond q0 (.int .i64 (k : Int)) undef)))), (16, 86, (cond p1 undef ((cond q0 (.int .i64 ((k : Int) - 1)) undef)))), (17, 87, (cond p1 undef ((cond q0 (.pointer (some (ad.add ((k - 1) * 3)))) undef)))), (18, 88, (cond p1 undef ((cond q0 (.pointer (some (ad.add ((k - 1) * 3)))) undef)))), (19, 89, (cond p1 undef ((cond q0 (.agg #[.int .u64 y.f0, .int .i64 y.f1]) undef)))), (20, 90, (cond p1 undef ((cond q0 (.pointer (some ⟨KB, 0, none⟩)) undef)))), (21, 91, (cond p1 undef ((cond q0 (.agg #[.int .u64 x.f0.f0, .int .i64 x.f0.f1]) undef)))), (22, 92, (cond p1 undef ((cond q0 (.bool t3) undef)))), (23, 93, (cond p1 undef ((cond q0 (.bool c6) undef)))), (24, 94, (cond p1 undef (.bool c7))), (25, 95, .bool p2)] ∧ (Below w.heap.size w w') ∧ (w'.heap[KB]? = some (.cells #[.int .u64 x.f0.f0, .int .i64 x.f0.f1, .slice B2 x.f1.length b2] 58 (0, 0)))) HT_.out HW_.out (by kernel_rfl) (by kernel_rfl) ?_ ?_ ?_
     ·exact ⟨by simp only [putSel, Bool.false_eq_true, if_false], HB.out, BX.out⟩
     ·skip
      clear BX HB
      refine steps_cons ?_ ?_
      ·rintro b a w' ⟨ha, Q_HB, Q_BX⟩ hb_ hon hoff
       refine ⟨_, rfl, fun K hK => ?_⟩
       have e8 : a.tmps[8]? = some (.pointer (some ⟨KB, 0, none⟩)) := by rw [ha]; exact (putSel_off rfl).trans rfl
       replace ha := Aside0.mk ha
       have HB := Aside0.mk Q_HB
       have BX := Aside0.mk Q_BX
       refine value_ (w1 := w') (v := .pointer (some ⟨KB, 0, none⟩)) (by rfl) rfl ?_ ?_
       ·go_simp
        (try simp only [i64_w])
        try rfl
       refine hK.out _ _ ⟨(by rw [ha.out]; exact putSel_upk 0 hb_ rfl rfl rfl), Q_HB, Q_BX⟩
      refine steps_cons ?_ ?_
      ·rintro b a w' ⟨ha, Q_HB, Q_BX⟩ hb_ hon hoff
       refine ⟨_, rfl, fun K hK => ?_⟩
       have e70 : a.tmps[70]? = some (.pointer (some ⟨KB, 0, none⟩)) := by rw [ha]; exact putSel_on (e := (0, 70, .pointer (some ⟨KB, 0, none⟩))) 0 rfl rfl (hon 0 (by kernel_rfl)) rfl
       replace ha := Aside0.mk ha
       have HB := Aside0.mk Q_HB
       have BX := Aside0.mk Q_BX
       have hc0_ : w'.cell? ⟨KB, 0, none⟩ = some (.int .u64 x.f0.f0) := (blk_cell BX.out 0).trans rfl
       have hc1_ : w'.cell? ⟨KB, 1, none⟩ = some (.int .i64 x.f0.f1) := (blk_cell BX.out 1).trans rfl
       refine value_ (w1 := w') (v := .agg #[.int .u64 x.f0.f0, .int .i64 x.f0.f1]) (by rfl) rfl ?_ ?_
       ·go_simp
        (try simp only [i64_w])
        try rfl
       refine hK.out _ _ ⟨(by rw [ha.out]; exact putSel_upk 1 hb_ rfl rfl rfl), Q_HB, Q_BX⟩
      refine steps_cons ?_ ?_
      ·rintro b a w' ⟨ha, Q_HB, Q_BX⟩ hb_ hon hoff
       refine ⟨_, rfl, fun K hK => ?_⟩
       have e71 : a.tmps[71]? = some (.agg #[.int .u64 x.f0.f0, .int .i64 x.f0.f1]) := by rw [ha]; exact putSel_on (e := (1, 71, .agg #[.int .u64 x.f0.f0, .int .i64 x.f0.f1])) 1 rfl rfl (hon 1 (by kernel_rfl)) rfl
       replace ha := Aside0.mk ha
       have HB := Aside0.mk Q_HB
       have BX := Aside0.mk Q_BX
       refine goes_ Try.func59 (by kernel_rfl) rfl #[.agg #[.int .u64 x.f0.f0, .int .i64 x.f0.f1]] (by rfl) rfl rfl (by first | (simp only [List.map_toArray, List.map_cons, List.map_nil, Act.eval, Array.getD_eq_getD_getElem?, Option.getD_some, e71]; done) | (simp only [List.map_toArray, List.map_cons, List.map_nil, Act.eval, Array.getD_eq_getD_getElem?, Option.getD_some, e71]; rfl)) ?_
       refine (rec_rightTid.calls x.f0.f0 x.f0.f1 t0 w' HT0.out).mono ?_
       rintro e_ wn_ ⟨rfl, hb2_⟩
       refine ⟨_, rfl, ?_⟩
       refine hK.out _ _ ⟨(by rw [ha.out]; exact putSel_upk 2 hb_ rfl rfl rfl), (below_step HB.out hb2_), ((hb2_.block KB (blk_lt BX.out)).trans BX.out)⟩
      refine steps_cons ?_ ?_
      ·rintro b a w' ⟨ha, Q_HB, Q_BX⟩ hb_ hon hoff
       refine ⟨_, rfl, fun K hK => ?_⟩
       have e72 : a.tmps[72]? = some (.bool t0) := by rw [ha]; exact putSel_on (e := (2, 72, .bool t0)) 2 rfl rfl (hon 2 (by kernel_rfl)) rfl
       replace ha := Aside0.mk ha
       have HB := Aside0.mk Q_HB
       have BX := Aside0.mk Q_BX
       have hq_ := HN1.out
       refine value_ (w1 := w') (v := .bool t1) (by rfl) rfl ?_ ?_
       ·go_simp
        (try simp only [i64_w])
        try rfl
       refine hK.out _ _ ⟨(by rw [ha.out]; exact putSel_upk 3 hb_ rfl rfl rfl), Q_HB, Q_BX⟩
      refine steps_cons ?_ ?_
      ·rintro b a w' ⟨ha, Q_HB, Q_BX⟩ hb_ hon hoff
       refine ⟨_, rfl, fun K hK => ?_⟩
       have e73 : a.tmps[73]? = some (.bool t1) := by rw [ha]; exact putSel_on (e := (3, 73, .bool t1)) 3 rfl rfl (hon 3 (by kernel_rfl)) rfl
       replace ha := Aside0.mk ha
       have HB := Aside0.mk Q_HB
       have BX := Aside0.mk Q_BX
       refine value_ (w1 := w') (v := .bool t1) (by rfl) rfl ?_ ?_
       ·go_simp
        (try simp only [i64_w])
        try rfl
       refine hK.out _ _ ⟨(by rw [ha.out]; exact putSel_upk 4 hb_ rfl rfl rfl), Q_HB, Q_BX⟩
      refine steps_cons ?_ ?_
      ·rintro b a w' ⟨ha, Q_HB, Q_BX⟩ hb_ hon hoff
       cases t1 with
       | true =>
        refine ⟨_, rfl, fun K hK => ?_⟩
        have e74 : a.tmps[74]? = some (.bool true) := by rw [ha]; exact putSel_on (e := (4, 74, .bool true)) 4 rfl rfl (hon 4 (by kernel_rfl)) rfl
        replace ha := Aside0.mk ha
        refine off_ (wanted_off rfl rfl rfl (e74.trans (by first | rfl | (simp [*]; done)))) ?_
        refine hK.out _ _ ⟨(by rw [ha.out]; exact putSel_upk 5 hb_ rfl rfl rfl), Q_HB, Q_BX⟩
       | false =>
        refine ⟨_, rfl, fun K hK => ?_⟩
        have e8 : a.tmps[8]? = some (.pointer (some ⟨KB, 0, none⟩)) := by rw [ha]; exact (putSel_off rfl).trans rfl
        have e74 : a.tmps[74]? = some (.bool false) := by rw [ha]; exact putSel_on (e := (4, 74, .bool false)) 4 rfl rfl (hon 4 (by kernel_rfl)) rfl
        replace ha := Aside0.mk ha
        have HB := Aside0.mk Q_HB
        have BX := Aside0.mk Q_BX
        refine value_ (w1 := w') (v := .pointer (some ⟨KB, 2, none⟩)) (wanted_on rfl rfl rfl (e74.trans (by first | rfl | (simp [*]; done)))) rfl ?_ ?_
        ·go_simp
         (try simp only [i64_w])
         try rfl
        refine hK.out _ _ ⟨(by rw [ha.out]; exact putSel_upk 5 hb_ rfl rfl rfl), Q_HB, Q_BX⟩
      refine steps_cons ?_ ?_
      ·rintro b a w' ⟨ha, Q_HB, Q_BX⟩ hb_ hon hoff
       cases t1 with
       | true =>
        refine ⟨_, rfl, fun K hK => ?_⟩
        have e74 : a.tmps[74]? = some (.bool true) := by rw [ha]; exact putSel_on (e := (4, 74, .bool true)) 4 rfl rfl (hon 4 (by kernel_rfl)) rfl
        replace ha := Aside0.mk ha
        refine off_ (wanted_off rfl rfl rfl (e74.trans (by first | rfl | (simp [*]; done)))) ?_
        refine hK.out _ _ ⟨(by rw [ha.out]; exact putSel_upk 6 hb_ rfl rfl rfl), Q_HB, Q_BX⟩
       | false =>
        refine ⟨_, rfl, fun K hK => ?_⟩
        have e75 : a.tmps[75]? = some (.pointer (some ⟨KB, 2, none⟩)) := by rw [ha]; exact putSel_on (e := (5, 75, .pointer (some ⟨KB, 2, none⟩))) 5 rfl rfl (hon 5 (by kernel_rfl)) rfl
        have e74 : a.tmps[74]? = some (.bool false) := by rw [ha]; exact putSel_on (e := (4, 74, .bool false)) 4 rfl rfl (hon 4 (by kernel_rfl)) rfl
        replace ha := Aside0.mk ha
        have HB := Aside0.mk Q_HB
        have BX := Aside0.mk Q_BX
        have hc2_ : w'.cell? ⟨KB, 2, none⟩ = some (.slice B2 x.f1.length b2) := (blk_cell BX.out 2).trans rfl
        refine value_ (w1 := w') (v := .slice B2 x.f1.length b2) (wanted_on rfl rfl rfl (e74.trans (by first | rfl | (simp [*]; done)))) rfl ?_ ?_
        ·go_simp
         (try simp only [i64_w])
         try rfl
        refine hK.out _ _ ⟨(by rw [ha.out]; exact putSel_upk 6 hb_ rfl rfl rfl), Q_HB, Q_BX⟩
      refine steps_cons ?_ ?_
      ·rintro b a w' ⟨ha, Q_HB, Q_BX⟩ hb_ hon hoff
       cases t1 with
       | true =>
        refine ⟨_, rfl, fun K hK => ?_⟩
        have e74 : a.tmps[74]? = some (.bool true) := by rw [ha]; exact putSel_on (e := (4, 74, .bool true)) 4 rfl rfl (hon 4 (by kernel_rfl)) rfl
        replace ha := Aside0.mk ha
        refine off_ (wanted_off rfl rfl rfl (e74.trans (by first | rfl | (simp [*]; done)))) ?_
        refine hK.out _ _ ⟨(by rw [ha.out]; exact putSel_upk 7 hb_ rfl rfl rfl), Q_HB, Q_BX⟩
       | false =>
        refine ⟨_, rfl, fun K hK => ?_⟩
        have e76 : a.tmps[76]? = some (.slice B2 x.f1.length b2) := by rw [ha]; exact putSel_on (e := (6, 76, .slice B2 x.f1.length b2)) 6 rfl rfl (hon 6 (by kernel_rfl)) rfl
        have e74 : a.tmps[74]? = some (.bool false) := by rw [ha]; exact putSel_on (e := (4, 74, .bool false)) 4 rfl rfl (hon 4 (by kernel_rfl)) rfl
        replace ha := Aside0.mk ha
        have HB := Aside0.mk Q_HB
        have BX := Aside0.mk Q_BX
        refine goes_ Try.func60 (by kernel_rfl) rfl #[.slice B2 x.f1.length b2] (wanted_on rfl rfl rfl (e74.trans (by first | rfl | (simp [*]; done)))) rfl rfl (by first | (simp only [List.map_toArray, List.map_cons, List.map_nil, Act.eval, Array.getD_eq_getD_getElem?, Option.getD_some, e76, e74]; done) | (simp only [List.map_toArray, List.map_cons, List.map_nil, Act.eval, Array.getD_eq_getD_getElem?, Option.getD_some, e76, e74]; rfl)) ?_
        refine (rec_risingNodes.calls 1000001 B2 b2 x.f1 t2 w' (Kd.C_below HCK.out HB.out) HLK.out HT2.out).mono ?_
        rintro e_ wn_ ⟨rfl, hb2_⟩
        refine ⟨_, rfl, ?_⟩
        refine hK.out _ _ ⟨(by rw [ha.out]; exact putSel_upk 7 hb_ rfl rfl rfl), (below_step HB.out hb2_.below), ((hb2_.below.block KB (blk_lt BX.out)).trans BX.out)⟩
      refine steps_cons ?_ ?_
      ·rintro b a w' ⟨ha, Q_HB, Q_BX⟩ hb_ hon hoff
       cases t1 with
       | true =>
        refine ⟨_, rfl, fun K hK => ?_⟩
        have e74 : a.tmps[74]? = some (.bool true) := by rw [ha]; exact putSel_on (e := (4, 74, .bool true)) 4 rfl rfl (hon 4 (by kernel_rfl)) rfl
        replace ha := Aside0.mk ha
        refine off_ (wanted_off rfl rfl rfl (e74.trans (by first | rfl | (simp [*]; done)))) ?_
        refine hK.out _ _ ⟨(by rw [ha.out]; exact putSel_upk 8 hb_ rfl rfl rfl), Q_HB, Q_BX⟩
       | false =>
        refine ⟨_, rfl, fun K hK => ?_⟩
        have e77 : a.tmps[77]? = some (.bool t2) := by rw [ha]; exact putSel_on (e := (7, 77, .bool t2)) 7 rfl rfl (hon 7 (by kernel_rfl)) rfl
        have e74 : a.tmps[74]? = some (.bool false) := by rw [ha]; exact putSel_on (e := (4, 74, .bool false)) 4 rfl rfl (hon 4 (by kernel_rfl)) rfl
        replace ha := Aside0.mk ha
        have HB := Aside0.mk Q_HB
        have BX := Aside0.mk Q_BX
        have hq_ := HN5.out
        refine value_ (w1 := w') (v := .bool c5) (wanted_on rfl rfl rfl (e74.trans (by first | rfl | (simp [*]; done)))) rfl ?_ ?_
        ·go_simp
         (try simp only [i64_w])
         try rfl
        refine hK.out _ _ ⟨(by rw [ha.out]; exact putSel_upk 8 hb_ rfl rfl rfl), Q_HB, Q_BX⟩
      refine steps_cons ?_ ?_
      ·rintro b a w' ⟨ha, Q_HB, Q_BX⟩ hb_ hon hoff
       cases t1 with
       | true =>
        obtain rfl : true = p1 := HP1.out.symm
        refine ⟨_, rfl, fun K hK => ?_⟩
        have e74 : a.tmps[74]? = some (.bool true) := by rw [ha]; exact putSel_on (e := (4, 74, .bool true)) 4 rfl rfl (hon 4 (by kernel_rfl)) rfl
        have e78 : a.tmps[78]? = some (undef) := by rw [ha]; exact putSel_on (e := (8, 78, undef)) 8 rfl rfl (hon 8 (by kernel_rfl)) rfl
        replace ha := Aside0.mk ha
        have HB := Aside0.mk Q_HB
        have BX := Aside0.mk Q_BX
        refine value_ (w1 := w') (v := .bool true) (by rfl) rfl ?_ ?_
        ·go_simp
         (try simp only [i64_w])
         try rfl
        refine hK.out _ _ ⟨(by rw [ha.out]; exact putSel_upk 9 hb_ rfl rfl rfl), Q_HB, Q_BX⟩
       | false =>
        obtain rfl : c5 = p1 := HP1.out.symm
        refine ⟨_, rfl, fun K hK => ?_⟩
        have e74 : a.tmps[74]? = some (.bool false) := by rw [ha]; exact putSel_on (e := (4, 74, .bool false)) 4 rfl rfl (hon 4 (by kernel_rfl)) rfl
        have e78 : a.tmps[78]? = some (.bool c5) := by rw [ha]; exact putSel_on (e := (8, 78, .bool c5)) 8 rfl rfl (hon 8 (by kernel_rfl)) rfl
        replace ha := Aside0.mk ha
        have HB := Aside0.mk Q_HB
        have BX := Aside0.mk Q_BX
        refine value_ (w1 := w') (v := .bool c5) (by rfl) rfl ?_ ?_
        ·go_simp
         (try simp only [i64_w])
         try rfl
        refine hK.out _ _ ⟨(by rw [ha.out]; exact putSel_upk 9 hb_ rfl rfl rfl), Q_HB, Q_BX⟩
      refine steps_cons ?_ ?_
      ·rintro b a w' ⟨ha, Q_HB, Q_BX⟩ hb_ hon hoff
       refine ⟨_, rfl, fun K hK => ?_⟩
       have e79 : a.tmps[79]? = some (.bool p1) := by rw [ha]; exact putSel_on (e := (9, 79, .bool p1)) 9 rfl rfl (hon 9 (by kernel_rfl)) rfl
       replace ha := Aside0.mk ha
       have HB := Aside0.mk Q_HB
       have BX := Aside0.mk Q_BX
       refine value_ (w1 := w') (v := .bool p1) (by rfl) rfl ?_ ?_
       ·go_simp
        (try simp only [i64_w])
        try rfl
       refine hK.out _ _ ⟨(by rw [ha.out]; exact putSel_upk 10 hb_ rfl rfl rfl), Q_HB, Q_BX⟩
      refine steps_cons ?_ ?_
      ·rintro b a w' ⟨ha, Q_HB, Q_BX⟩ hb_ hon hoff
       cases p1 with
       | true =>
        refine ⟨_, rfl, fun K hK => ?_⟩
        have e80 : a.tmps[80]? = some (.bool true) := by rw [ha]; exact putSel_on (e := (10, 80, .bool true)) 10 rfl rfl (hon 10 (by kernel_rfl)) rfl
        replace ha := Aside0.mk ha
        refine off_ (wanted_off rfl rfl rfl (e80.trans (by first | rfl | (simp [*]; done)))) ?_
        refine hK.out _ _ ⟨(by rw [ha.out]; exact putSel_upk 11 hb_ rfl rfl rfl), Q_HB, Q_BX⟩
       | false =>
        refine ⟨_, rfl, fun K hK => ?_⟩
        have e7 : a.tmps[7]? = some (.int .i64 (k : Int)) := by rw [ha]; exact (putSel_off rfl).trans rfl
        have e80 : a.tmps[80]? = some (.bool false) := by rw [ha]; exact putSel_on (e := (10, 80, .bool false)) 10 rfl rfl (hon 10 (by kernel_rfl)) rfl
        replace ha := Aside0.mk ha
        have HB := Aside0.mk Q_HB
        have BX := Aside0.mk Q_BX
        refine value_ (w1 := w') (v := .int .i64 (k : Int)) (wanted_on rfl rfl rfl (e80.trans (by first | rfl | (simp [*]; done)))) rfl ?_ ?_
        ·go_simp
         (try simp only [i64_w])
         try rfl
        refine hK.out _ _ ⟨(by rw [ha.out]; exact putSel_upk 11 hb_ rfl rfl rfl), Q_HB, Q_BX⟩
      refine steps_cons ?_ ?_
      ·rintro b a w' ⟨ha, Q_HB, Q_BX⟩ hb_ hon hoff
       cases p1 with
       | true =>
        refine ⟨_, rfl, fun K hK => ?_⟩
        have e80 : a.tmps[80]? = some (.bool true) := by rw [ha]; exact putSel_on (e := (10, 80, .bool true)) 10 rfl rfl (hon 10 (by kernel_rfl)) rfl
        replace ha := Aside0.mk ha
        refine off_ (wanted_off rfl rfl rfl (e80.trans (by first | rfl | (simp [*]; done)))) ?_
        refine hK.out _ _ ⟨(by rw [ha.out]; exact putSel_upk 12 hb_ rfl rfl rfl), Q_HB, Q_BX⟩
       | false =>
        refine ⟨_, rfl, fun K hK => ?_⟩
        have e81 : a.tmps[81]? = some (.int .i64 (k : Int)) := by rw [ha]; exact putSel_on (e := (11, 81, .int .i64 (k : Int))) 11 rfl rfl (hon 11 (by kernel_rfl)) rfl
        have e80 : a.tmps[80]? = some (.bool false) := by rw [ha]; exact putSel_on (e := (10, 80, .bool false)) 10 rfl rfl (hon 10 (by kernel_rfl)) rfl
        replace ha := Aside0.mk ha
        have HB := Aside0.mk Q_HB
        have BX := Aside0.mk Q_BX
        have hq_ : decide (0 < k) = q0 := by rw [← HQ0.out]; simp
        refine value_ (w1 := w') (v := .bool q0) (wanted_on rfl rfl rfl (e80.trans (by first | rfl | (simp [*]; done)))) rfl ?_ ?_
        ·go_simp
         (try simp only [i64_w])
         try rfl
        refine hK.out _ _ ⟨(by rw [ha.out]; exact putSel_upk 12 hb_ rfl rfl rfl), Q_HB, Q_BX⟩
      refine steps_cons ?_ ?_
      ·rintro b a w' ⟨ha, Q_HB, Q_BX⟩ hb_ hon hoff
       cases p1 with
       | true =>
        refine ⟨_, rfl, fun K hK => ?_⟩
        have e80 : a.tmps[80]? = some (.bool true) := by rw [ha]; exact putSel_on (e := (10, 80, .bool true)) 10 rfl rfl (hon 10 (by kernel_rfl)) rfl
        replace ha := Aside0.mk ha
        refine off_ (wanted_off rfl rfl rfl (e80.trans (by first | rfl | (simp [*]; done)))) ?_
        refine hK.out _ _ ⟨(by rw [ha.out]; exact putSel_upk 13 hb_ rfl rfl rfl), Q_HB, Q_BX⟩
       | false =>
        refine ⟨_, rfl, fun K hK => ?_⟩
        have e82 : a.tmps[82]? = some (.bool q0) := by rw [ha]; exact putSel_on (e := (12, 82, .bool q0)) 12 rfl rfl (hon 12 (by kernel_rfl)) rfl
        have e80 : a.tmps[80]? = some (.bool false) := by rw [ha]; exact putSel_on (e := (10, 80, .bool false)) 10 rfl rfl (hon 10 (by kernel_rfl)) rfl
        replace ha := Aside0.mk ha
        have HB := Aside0.mk Q_HB
        have BX := Aside0.mk Q_BX
        refine value_ (w1 := w') (v := .bool q0) (wanted_on rfl rfl rfl (e80.trans (by first | rfl | (simp [*]; done)))) rfl ?_ ?_
        ·go_simp
         (try simp only [i64_w])
         try rfl
        refine hK.out _ _ ⟨(by rw [ha.out]; exact putSel_upk 13 hb_ rfl rfl rfl), Q_HB, Q_BX⟩
      refine steps_cons ?_ ?_
      ·rintro b a w' ⟨ha, Q_HB, Q_BX⟩ hb_ hon hoff
       cases p1 with
       | true =>
        refine ⟨_, rfl, fun K hK => ?_⟩
        have e83 : a.tmps[83]? = some (undef) := by rw [ha]; exact putSel_on (e := (13, 83, undef)) 13 rfl rfl (hon 13 (by kernel_rfl)) rfl
        replace ha := Aside0.mk ha
        refine off_ (wanted_undef rfl rfl rfl (e83.trans (by first | rfl | (simp [*]; done)))) ?_
        refine hK.out _ _ ⟨(by rw [ha.out]; exact putSel_upk 14 hb_ rfl rfl rfl), Q_HB, Q_BX⟩
       | false =>
        cases q0 with
        | true =>
         refine ⟨_, rfl, fun K hK => ?_⟩
         have e1 : a.tmps[1]? = some (.slice (some ad) l2.length c2) := by rw [ha]; exact (putSel_off rfl).trans rfl
         have e83 : a.tmps[83]? = some (.bool true) := by rw [ha]; exact putSel_on (e := (13, 83, .bool true)) 13 rfl rfl (hon 13 (by kernel_rfl)) rfl
         replace ha := Aside0.mk ha
         have HB := Aside0.mk Q_HB
         have BX := Aside0.mk Q_BX
         refine value_ (w1 := w') (v := .slice (some ad) l2.length c2) (wanted_on rfl rfl rfl (e83.trans (by first | rfl | (simp [*]; done)))) rfl ?_ ?_
         ·go_simp
          (try simp only [i64_w])
          try rfl
         refine hK.out _ _ ⟨(by rw [ha.out]; exact putSel_upk 14 hb_ rfl rfl rfl), Q_HB, Q_BX⟩
        | false =>
         refine ⟨_, rfl, fun K hK => ?_⟩
         have e83 : a.tmps[83]? = some (.bool false) := by rw [ha]; exact putSel_on (e := (13, 83, .bool false)) 13 rfl rfl (hon 13 (by kernel_rfl)) rfl
         replace ha := Aside0.mk ha
         refine off_ (wanted_off rfl rfl rfl (e83.trans (by first | rfl | (simp [*]; done)))) ?_
         refine hK.out _ _ ⟨(by rw [ha.out]; exact putSel_upk 14 hb_ rfl rfl rfl), Q_HB, Q_BX⟩
      refine steps_cons ?_ ?_
      ·rintro b a w' ⟨ha, Q_HB, Q_BX⟩ hb_ hon hoff
       cases p1 with
       | true =>
        refine ⟨_, rfl, fun K hK => ?_⟩
        have e83 : a.tmps[83]? = some (undef) := by rw [ha]; exact putSel_on (e := (13, 83, undef)) 13 rfl rfl (hon 13 (by kernel_rfl)) rfl
        replace ha := Aside0.mk ha
        refine off_ (wanted_undef rfl rfl rfl (e83.trans (by first | rfl | (simp [*]; done)))) ?_
        refine hK.out _ _ ⟨(by rw [ha.out]; exact putSel_upk 15 hb_ rfl rfl rfl), Q_HB, Q_BX⟩
       | false =>
        cases q0 with
        | true =>
         refine ⟨_, rfl, fun K hK => ?_⟩
         have e7 : a.tmps[7]? = some (.int .i64 (k : Int)) := by rw [ha]; exact (putSel_off rfl).trans rfl
         have e83 : a.tmps[83]? = some (.bool true) := by rw [ha]; exact putSel_on (e := (13, 83, .bool true)) 13 rfl rfl (hon 13 (by kernel_rfl)) rfl
         replace ha := Aside0.mk ha
         have HB := Aside0.mk Q_HB
         have BX := Aside0.mk Q_BX
         refine value_ (w1 := w') (v := .int .i64 (k : Int)) (wanted_on rfl rfl rfl (e83.trans (by first | rfl | (simp [*]; done)))) rfl ?_ ?_
         ·go_simp
          (try simp only [i64_w])
          try rfl
         refine hK.out _ _ ⟨(by rw [ha.out]; exact putSel_upk 15 hb_ rfl rfl rfl), Q_HB, Q_BX⟩
        | false =>
         refine ⟨_, rfl, fun K hK => ?_⟩
         have e83 : a.tmps[83]? = some (.bool false) := by rw [ha]; exact putSel_on (e := (13, 83, .bool false)) 13 rfl rfl (hon 13 (by kernel_rfl)) rfl
         replace ha := Aside0.mk ha
         refine off_ (wanted_off rfl rfl rfl (e83.trans (by first | rfl | (simp [*]; done)))) ?_
         refine hK.out _ _ ⟨(by rw [ha.out]; exact putSel_upk 15 hb_ rfl rfl rfl), Q_HB, Q_BX⟩
      refine steps_cons ?_ ?_
      ·rintro b a w' ⟨ha, Q_HB, Q_BX⟩ hb_ hon hoff
       cases p1 with
       | true =>
        refine ⟨_, rfl, fun K hK => ?_⟩
        have e83 : a.tmps[83]? = some (undef) := by rw [ha]; exact putSel_on (e := (13, 83, undef)) 13 rfl rfl (hon 13 (by kernel_rfl)) rfl
        replace ha := Aside0.mk ha
        refine off_ (wanted_undef rfl rfl rfl (e83.trans (by first | rfl | (simp [*]; done)))) ?_
        refine hK.out _ _ ⟨(by rw [ha.out]; exact putSel_upk 16 hb_ rfl rfl rfl), Q_HB, Q_BX⟩
       | false =>
        cases q0 with
        | true =>
         refine ⟨_, rfl, fun K hK => ?_⟩
         have e85 : a.tmps[85]? = some (.int .i64 (k : Int)) := by rw [ha]; exact putSel_on (e := (15, 85, .int .i64 (k : Int))) 15 rfl rfl (hon 15 (by kernel_rfl)) rfl
         have e83 : a.tmps[83]? = some (.bool true) := by rw [ha]; exact putSel_on (e := (13, 83, .bool true)) 13 rfl rfl (hon 13 (by kernel_rfl)) rfl
         replace ha := Aside0.mk ha
         have HB := Aside0.mk Q_HB
         have BX := Aside0.mk Q_BX
         have hk_ : 1 ≤ k := by have h_ := of_decide_eq_true HQ0.out; omega
         have hw_ : IntKind.i64.wrap ((k : Int) - 1) = (k : Int) - 1 := by rw [i64_w]; unfold wrap64; omega
         refine value_ (w1 := w') (v := .int .i64 ((k : Int) - 1)) (wanted_on rfl rfl rfl (e83.trans (by first | rfl | (simp [*]; done)))) rfl ?_ ?_
         ·go_simp
          (try simp only [i64_w])
          try rfl
         refine hK.out _ _ ⟨(by rw [ha.out]; exact putSel_upk 16 hb_ rfl rfl rfl), Q_HB, Q_BX⟩
        | false =>
         refine ⟨_, rfl, fun K hK => ?_⟩
         have e83 : a.tmps[83]? = some (.bool false) := by rw [ha]; exact putSel_on (e := (13, 83, .bool false)) 13 rfl rfl (hon 13 (by kernel_rfl)) rfl
         replace ha := Aside0.mk ha
         refine off_ (wanted_off rfl rfl rfl (e83.trans (by first | rfl | (simp [*]; done)))) ?_
         refine hK.out _ _ ⟨(by rw [ha.out]; exact putSel_upk 16 hb_ rfl rfl rfl), Q_HB, Q_BX⟩
      refine steps_cons ?_ ?_
      ·rintro b a w' ⟨ha, Q_HB, Q_BX⟩ hb_ hon hoff
       cases p1 with
       | true =>
        refine ⟨_, rfl, fun K hK => ?_⟩
        have e83 : a.tmps[83]? = some (undef) := by rw [ha]; exact putSel_on (e := (13, 83, undef)) 13 rfl rfl (hon 13 (by kernel_rfl)) rfl
        replace ha := Aside0.mk ha
        refine off_ (wanted_undef rfl rfl rfl (e83.trans (by first | rfl | (simp [*]; done)))) ?_
        refine hK.out _ _ ⟨(by rw [ha.out]; exact putSel_upk 17 hb_ rfl rfl rfl), Q_HB, Q_BX⟩
       | false =>
        cases q0 with
        | true =>
         refine ⟨_, rfl, fun K hK => ?_⟩
         have e84 : a.tmps[84]? = some (.slice (some ad) l2.length c2) := by rw [ha]; exact putSel_on (e := (14, 84, .slice (some ad) l2.length c2)) 14 rfl rfl (hon 14 (by kernel_rfl)) rfl
         have e86 : a.tmps[86]? = some (.int .i64 ((k : Int) - 1)) := by rw [ha]; exact putSel_on (e := (16, 86, .int .i64 ((k : Int) - 1))) 16 rfl rfl (hon 16 (by kernel_rfl)) rfl
         have e83 : a.tmps[83]? = some (.bool true) := by rw [ha]; exact putSel_on (e := (13, 83, .bool true)) 13 rfl rfl (hon 13 (by kernel_rfl)) rfl
         replace ha := Aside0.mk ha
         have HB := Aside0.mk Q_HB
         have BX := Aside0.mk Q_BX
         have hk_ : 1 ≤ k := by have h_ := of_decide_eq_true HQ0.out; omega
         have hk2_ : ((k : Int) - 1).toNat = k - 1 := by omega
         have hk3_ : (1 : Int) ≤ (k : Int) := by omega
         have hk4_ : (k : Int) - 1 < (l2.length : Int) := by omega
         refine value_ (w1 := w') (v := .pointer (some (ad.add ((k - 1) * 3)))) (wanted_on rfl rfl rfl (e83.trans (by first | rfl | (simp [*]; done)))) rfl ?_ ?_
         ·go_simp
          (try simp only [i64_w])
          try rfl
         refine hK.out _ _ ⟨(by rw [ha.out]; exact putSel_upk 17 hb_ rfl rfl rfl), Q_HB, Q_BX⟩
        | false =>
         refine ⟨_, rfl, fun K hK => ?_⟩
         have e83 : a.tmps[83]? = some (.bool false) := by rw [ha]; exact putSel_on (e := (13, 83, .bool false)) 13 rfl rfl (hon 13 (by kernel_rfl)) rfl
         replace ha := Aside0.mk ha
         refine off_ (wanted_off rfl rfl rfl (e83.trans (by first | rfl | (simp [*]; done)))) ?_
         refine hK.out _ _ ⟨(by rw [ha.out]; exact putSel_upk 17 hb_ rfl rfl rfl), Q_HB, Q_BX⟩
      refine steps_cons ?_ ?_
      ·rintro b a w' ⟨ha, Q_HB, Q_BX⟩ hb_ hon hoff
       cases p1 with
       | true =>
        refine ⟨_, rfl, fun K hK => ?_⟩
        have e83 : a.tmps[83]? = some (undef) := by rw [ha]; exact putSel_on (e := (13, 83, undef)) 13 rfl rfl (hon 13 (by kernel_rfl)) rfl
        replace ha := Aside0.mk ha
        refine off_ (wanted_undef rfl rfl rfl (e83.trans (by first | rfl | (simp [*]; done)))) ?_
        refine hK.out _ _ ⟨(by rw [ha.out]; exact putSel_upk 18 hb_ rfl rfl rfl), Q_HB, Q_BX⟩
       | false =>
        cases q0 with
        | true =>
         refine ⟨_, rfl, fun K hK => ?_⟩
         have e87 : a.tmps[87]? = some (.pointer (some (ad.add ((k - 1) * 3)))) := by rw [ha]; exact putSel_on (e := (17, 87, .pointer (some (ad.add ((k - 1) * 3))))) 17 rfl rfl (hon 17 (by kernel_rfl)) rfl
         have e83 : a.tmps[83]? = some (.bool true) := by rw [ha]; exact putSel_on (e := (13, 83, .bool true)) 13 rfl rfl (hon 13 (by kernel_rfl)) rfl
         replace ha := Aside0.mk ha
         have HB := Aside0.mk Q_HB
         have BX := Aside0.mk Q_BX
         refine value_ (w1 := w') (v := .pointer (some (ad.add ((k - 1) * 3)))) (wanted_on rfl rfl rfl (e83.trans (by first | rfl | (simp [*]; done)))) rfl ?_ ?_
         ·go_simp
          (try simp only [i64_w])
          try rfl
         refine hK.out _ _ ⟨(by rw [ha.out]; exact putSel_upk 18 hb_ rfl rfl rfl), Q_HB, Q_BX⟩
        | false =>
         refine ⟨_, rfl, fun K hK => ?_⟩
         have e83 : a.tmps[83]? = some (.bool false) := by rw [ha]; exact putSel_on (e := (13, 83, .bool false)) 13 rfl rfl (hon 13 (by kernel_rfl)) rfl
         replace ha := Aside0.mk ha
         refine off_ (wanted_off rfl rfl rfl (e83.trans (by first | rfl | (simp [*]; done)))) ?_
         refine hK.out _ _ ⟨(by rw [ha.out]; exact putSel_upk 18 hb_ rfl rfl rfl), Q_HB, Q_BX⟩
      refine steps_cons ?_ ?_
      ·rintro b a w' ⟨ha, Q_HB, Q_BX⟩ hb_ hon hoff
       cases p1 with
       | true =>
        refine ⟨_, rfl, fun K hK => ?_⟩
        have e83 : a.tmps[83]? = some (undef) := by rw [ha]; exact putSel_on (e := (13, 83, undef)) 13 rfl rfl (hon 13 (by kernel_rfl)) rfl
        replace ha := Aside0.mk ha
        refine off_ (wanted_undef rfl rfl rfl (e83.trans (by first | rfl | (simp [*]; done)))) ?_
        refine hK.out _ _ ⟨(by rw [ha.out]; exact putSel_upk 19 hb_ rfl rfl rfl), Q_HB, Q_BX⟩
       | false =>
        cases q0 with
        | true =>
         refine ⟨_, rfl, fun K hK => ?_⟩
         have e88 : a.tmps[88]? = some (.pointer (some (ad.add ((k - 1) * 3)))) := by rw [ha]; exact putSel_on (e := (18, 88, .pointer (some (ad.add ((k - 1) * 3))))) 18 rfl rfl (hon 18 (by kernel_rfl)) rfl
         have e83 : a.tmps[83]? = some (.bool true) := by rw [ha]; exact putSel_on (e := (13, 83, .bool true)) 13 rfl rfl (hon 13 (by kernel_rfl)) rfl
         replace ha := Aside0.mk ha
         have HB := Aside0.mk Q_HB
         have BX := Aside0.mk Q_BX
         have hy_ := HY.out (by have h_ := of_decide_eq_true HQ0.out; omega)
         have hy0_ := up_cell HB.out hy_.1
         have hy1_ := up_cell HB.out hy_.2
         refine value_ (w1 := w') (v := .agg #[.int .u64 y.f0, .int .i64 y.f1]) (wanted_on rfl rfl rfl (e83.trans (by first | rfl | (simp [*]; done)))) rfl ?_ ?_
         ·go_simp
          (try simp only [i64_w])
          try rfl
         refine hK.out _ _ ⟨(by rw [ha.out]; exact putSel_upk 19 hb_ rfl rfl rfl), Q_HB, Q_BX⟩
        | false =>
         refine ⟨_, rfl, fun K hK => ?_⟩
         have e83 : a.tmps[83]? = some (.bool false) := by rw [ha]; exact putSel_on (e := (13, 83, .bool false)) 13 rfl rfl (hon 13 (by kernel_rfl)) rfl
         replace ha := Aside0.mk ha
         refine off_ (wanted_off rfl rfl rfl (e83.trans (by first | rfl | (simp [*]; done)))) ?_
         refine hK.out _ _ ⟨(by rw [ha.out]; exact putSel_upk 19 hb_ rfl rfl rfl), Q_HB, Q_BX⟩
      refine steps_cons ?_ ?_
      ·rintro b a w' ⟨ha, Q_HB, Q_BX⟩ hb_ hon hoff
       cases p1 with
       | true =>
        refine ⟨_, rfl, fun K hK => ?_⟩
        have e83 : a.tmps[83]? = some (undef) := by rw [ha]; exact putSel_on (e := (13, 83, undef)) 13 rfl rfl (hon 13 (by kernel_rfl)) rfl
        replace ha := Aside0.mk ha
        refine off_ (wanted_undef rfl rfl rfl (e83.trans (by first | rfl | (simp [*]; done)))) ?_
        refine hK.out _ _ ⟨(by rw [ha.out]; exact putSel_upk 20 hb_ rfl rfl rfl), Q_HB, Q_BX⟩
       | false =>
        cases q0 with
        | true =>
         refine ⟨_, rfl, fun K hK => ?_⟩
         have e8 : a.tmps[8]? = some (.pointer (some ⟨KB, 0, none⟩)) := by rw [ha]; exact (putSel_off rfl).trans rfl
         have e83 : a.tmps[83]? = some (.bool true) := by rw [ha]; exact putSel_on (e := (13, 83, .bool true)) 13 rfl rfl (hon 13 (by kernel_rfl)) rfl
         replace ha := Aside0.mk ha
         have HB := Aside0.mk Q_HB
         have BX := Aside0.mk Q_BX
         refine value_ (w1 := w') (v := .pointer (some ⟨KB, 0, none⟩)) (wanted_on rfl rfl rfl (e83.trans (by first | rfl | (simp [*]; done)))) rfl ?_ ?_
         ·go_simp
          (try simp only [i64_w])
          try rfl
         refine hK.out _ _ ⟨(by rw [ha.out]; exact putSel_upk 20 hb_ rfl rfl rfl), Q_HB, Q_BX⟩
        | false =>
         refine ⟨_, rfl, fun K hK => ?_⟩
         have e83 : a.tmps[83]? = some (.bool false) := by rw [ha]; exact putSel_on (e := (13, 83, .bool false)) 13 rfl rfl (hon 13 (by kernel_rfl)) rfl
         replace ha := Aside0.mk ha
         refine off_ (wanted_off rfl rfl rfl (e83.trans (by first | rfl | (simp [*]; done)))) ?_
         refine hK.out _ _ ⟨(by rw [ha.out]; exact putSel_upk 20 hb_ rfl rfl rfl), Q_HB, Q_BX⟩
      refine steps_cons ?_ ?_
      ·rintro b a w' ⟨ha, Q_HB, Q_BX⟩ hb_ hon hoff
       cases p1 with
       | true =>
        refine ⟨_, rfl, fun K hK => ?_⟩
        have e83 : a.tmps[83]? = some (undef) := by rw [ha]; exact putSel_on (e := (13, 83, undef)) 13 rfl rfl (hon 13 (by kernel_rfl)) rfl
        replace ha := Aside0.mk ha
        refine off_ (wanted_undef rfl rfl rfl (e83.trans (by first | rfl | (simp [*]; done)))) ?_
        refine hK.out _ _ ⟨(by rw [ha.out]; exact putSel_upk 21 hb_ rfl rfl rfl), Q_HB, Q_BX⟩
       | false =>
        cases q0 with
        | true =>
         refine ⟨_, rfl, fun K hK => ?_⟩
         have e90 : a.tmps[90]? = some (.pointer (some ⟨KB, 0, none⟩)) := by rw [ha]; exact putSel_on (e := (20, 90, .pointer (some ⟨KB, 0, none⟩))) 20 rfl rfl (hon 20 (by kernel_rfl)) rfl
         have e83 : a.tmps[83]? = some (.bool true) := by rw [ha]; exact putSel_on (e := (13, 83, .bool true)) 13 rfl rfl (hon 13 (by kernel_rfl)) rfl
         replace ha := Aside0.mk ha
         have HB := Aside0.mk Q_HB
         have BX := Aside0.mk Q_BX
         have hc0_ : w'.cell? ⟨KB, 0, none⟩ = some (.int .u64 x.f0.f0) := (blk_cell BX.out 0).trans rfl
         have hc1_ : w'.cell? ⟨KB, 1, none⟩ = some (.int .i64 x.f0.f1) := (blk_cell BX.out 1).trans rfl
         refine value_ (w1 := w') (v := .agg #[.int .u64 x.f0.f0, .int .i64 x.f0.f1]) (wanted_on rfl rfl rfl (e83.trans (by first | rfl | (simp [*]; done)))) rfl ?_ ?_
         ·go_simp
          (try simp only [i64_w])
          try rfl
         refine hK.out _ _ ⟨(by rw [ha.out]; exact putSel_upk 21 hb_ rfl rfl rfl), Q_HB, Q_BX⟩
        | false =>
         refine ⟨_, rfl, fun K hK => ?_⟩
         have e83 : a.tmps[83]? = some (.bool false) := by rw [ha]; exact putSel_on (e := (13, 83, .bool false)) 13 rfl rfl (hon 13 (by kernel_rfl)) rfl
         replace ha := Aside0.mk ha
         refine off_ (wanted_off rfl rfl rfl (e83.trans (by first | rfl | (simp [*]; done)))) ?_
         refine hK.out _ _ ⟨(by rw [ha.out]; exact putSel_upk 21 hb_ rfl rfl rfl), Q_HB, Q_BX⟩
      refine steps_cons ?_ ?_
      ·rintro b a w' ⟨ha, Q_HB, Q_BX⟩ hb_ hon hoff
       cases p1 with
       | true =>
        refine ⟨_, rfl, fun K hK => ?_⟩
        have e83 : a.tmps[83]? = some (undef) := by rw [ha]; exact putSel_on (e := (13, 83, undef)) 13 rfl rfl (hon 13 (by kernel_rfl)) rfl
        replace ha := Aside0.mk ha
        refine off_ (wanted_undef rfl rfl rfl (e83.trans (by first | rfl | (simp [*]; done)))) ?_
        refine hK.out _ _ ⟨(by rw [ha.out]; exact putSel_upk 22 hb_ rfl rfl rfl), Q_HB, Q_BX⟩
       | false =>
        cases q0 with
        | true =>
         refine ⟨_, rfl, fun K hK => ?_⟩
         have e89 : a.tmps[89]? = some (.agg #[.int .u64 y.f0, .int .i64 y.f1]) := by rw [ha]; exact putSel_on (e := (19, 89, .agg #[.int .u64 y.f0, .int .i64 y.f1])) 19 rfl rfl (hon 19 (by kernel_rfl)) rfl
         have e91 : a.tmps[91]? = some (.agg #[.int .u64 x.f0.f0, .int .i64 x.f0.f1]) := by rw [ha]; exact putSel_on (e := (21, 91, .agg #[.int .u64 x.f0.f0, .int .i64 x.f0.f1])) 21 rfl rfl (hon 21 (by kernel_rfl)) rfl
         have e83 : a.tmps[83]? = some (.bool true) := by rw [ha]; exact putSel_on (e := (13, 83, .bool true)) 13 rfl rfl (hon 13 (by kernel_rfl)) rfl
         replace ha := Aside0.mk ha
         have HB := Aside0.mk Q_HB
         have BX := Aside0.mk Q_BX
         refine goes_ Try.func68 (by kernel_rfl) rfl #[.agg #[.int .u64 y.f0, .int .i64 y.f1], .agg #[.int .u64 x.f0.f0, .int .i64 x.f0.f1]] (wanted_on rfl rfl rfl (e83.trans (by first | rfl | (simp [*]; done)))) rfl rfl (by first | (simp only [List.map_toArray, List.map_cons, List.map_nil, Act.eval, Array.getD_eq_getD_getElem?, Option.getD_some, e89, e91, e83]; done) | (simp only [List.map_toArray, List.map_cons, List.map_nil, Act.eval, Array.getD_eq_getD_getElem?, Option.getD_some, e89, e91, e83]; rfl)) ?_
         refine (api_Tid_Elder.calls y.f0 y.f1 x.f0.f0 x.f0.f1 t3 w' HT3.out).mono ?_
         rintro e_ wn_ ⟨rfl, hb2_⟩
         refine ⟨_, rfl, ?_⟩
         refine hK.out _ _ ⟨(by rw [ha.out]; exact putSel_upk 22 hb_ rfl rfl rfl), (below_step HB.out hb2_), ((hb2_.block KB (blk_lt BX.out)).trans BX.out)⟩
        | false =>
         refine ⟨_, rfl, fun K hK => ?_⟩
         have e83 : a.tmps[83]? = some (.bool false) := by rw [ha]; exact putSel_on (e := (13, 83, .bool false)) 13 rfl rfl (hon 13 (by kernel_rfl)) rfl
         replace ha := Aside0.mk ha
         refine off_ (wanted_off rfl rfl rfl (e83.trans (by first | rfl | (simp [*]; done)))) ?_
         refine hK.out _ _ ⟨(by rw [ha.out]; exact putSel_upk 22 hb_ rfl rfl rfl), Q_HB, Q_BX⟩
      refine steps_cons ?_ ?_
      ·rintro b a w' ⟨ha, Q_HB, Q_BX⟩ hb_ hon hoff
       cases p1 with
       | true =>
        refine ⟨_, rfl, fun K hK => ?_⟩
        have e83 : a.tmps[83]? = some (undef) := by rw [ha]; exact putSel_on (e := (13, 83, undef)) 13 rfl rfl (hon 13 (by kernel_rfl)) rfl
        replace ha := Aside0.mk ha
        refine off_ (wanted_undef rfl rfl rfl (e83.trans (by first | rfl | (simp [*]; done)))) ?_
        refine hK.out _ _ ⟨(by rw [ha.out]; exact putSel_upk 23 hb_ rfl rfl rfl), Q_HB, Q_BX⟩
       | false =>
        cases q0 with
        | true =>
         refine ⟨_, rfl, fun K hK => ?_⟩
         have e92 : a.tmps[92]? = some (.bool t3) := by rw [ha]; exact putSel_on (e := (22, 92, .bool t3)) 22 rfl rfl (hon 22 (by kernel_rfl)) rfl
         have e83 : a.tmps[83]? = some (.bool true) := by rw [ha]; exact putSel_on (e := (13, 83, .bool true)) 13 rfl rfl (hon 13 (by kernel_rfl)) rfl
         replace ha := Aside0.mk ha
         have HB := Aside0.mk Q_HB
         have BX := Aside0.mk Q_BX
         have hq_ := HN6.out
         refine value_ (w1 := w') (v := .bool c6) (wanted_on rfl rfl rfl (e83.trans (by first | rfl | (simp [*]; done)))) rfl ?_ ?_
         ·go_simp
          (try simp only [i64_w])
          try rfl
         refine hK.out _ _ ⟨(by rw [ha.out]; exact putSel_upk 23 hb_ rfl rfl rfl), Q_HB, Q_BX⟩
        | false =>
         refine ⟨_, rfl, fun K hK => ?_⟩
         have e83 : a.tmps[83]? = some (.bool false) := by rw [ha]; exact putSel_on (e := (13, 83, .bool false)) 13 rfl rfl (hon 13 (by kernel_rfl)) rfl
         replace ha := Aside0.mk ha
         refine off_ (wanted_off rfl rfl rfl (e83.trans (by first | rfl | (simp [*]; done)))) ?_
         refine hK.out _ _ ⟨(by rw [ha.out]; exact putSel_upk 23 hb_ rfl rfl rfl), Q_HB, Q_BX⟩
      refine steps_cons ?_ ?_
      ·rintro b a w' ⟨ha, Q_HB, Q_BX⟩ hb_ hon hoff
       cases p1 with
       | true =>
        refine ⟨_, rfl, fun K hK => ?_⟩
        have e80 : a.tmps[80]? = some (.bool true) := by rw [ha]; exact putSel_on (e := (10, 80, .bool true)) 10 rfl rfl (hon 10 (by kernel_rfl)) rfl
        replace ha := Aside0.mk ha
        refine off_ (wanted_off rfl rfl rfl (e80.trans (by first | rfl | (simp [*]; done)))) ?_
        refine hK.out _ _ ⟨(by rw [ha.out]; exact putSel_upk 24 hb_ rfl rfl rfl), Q_HB, Q_BX⟩
       | false =>
        cases q0 with
        | true =>
         obtain rfl : c6 = c7 := HP3.out.symm
         refine ⟨_, rfl, fun K hK => ?_⟩
         have e83 : a.tmps[83]? = some (.bool true) := by rw [ha]; exact putSel_on (e := (13, 83, .bool true)) 13 rfl rfl (hon 13 (by kernel_rfl)) rfl
         have e93 : a.tmps[93]? = some (.bool c6) := by rw [ha]; exact putSel_on (e := (23, 93, .bool c6)) 23 rfl rfl (hon 23 (by kernel_rfl)) rfl
         have e80 : a.tmps[80]? = some (.bool false) := by rw [ha]; exact putSel_on (e := (10, 80, .bool false)) 10 rfl rfl (hon 10 (by kernel_rfl)) rfl
         replace ha := Aside0.mk ha
         have HB := Aside0.mk Q_HB
         have BX := Aside0.mk Q_BX
         refine value_ (w1 := w') (v := .bool c6) (wanted_on rfl rfl rfl (e80.trans (by first | rfl | (simp [*]; done)))) rfl ?_ ?_
         ·go_simp
          (try simp only [i64_w])
          try rfl
         refine hK.out _ _ ⟨(by rw [ha.out]; exact putSel_upk 24 hb_ rfl rfl rfl), Q_HB, Q_BX⟩
        | false =>
         obtain rfl : false = c7 := HP3.out.symm
         refine ⟨_, rfl, fun K hK => ?_⟩
         have e83 : a.tmps[83]? = some (.bool false) := by rw [ha]; exact putSel_on (e := (13, 83, .bool false)) 13 rfl rfl (hon 13 (by kernel_rfl)) rfl
         have e93 : a.tmps[93]? = some (undef) := by rw [ha]; exact putSel_on (e := (23, 93, undef)) 23 rfl rfl (hon 23 (by kernel_rfl)) rfl
         have e80 : a.tmps[80]? = some (.bool false) := by rw [ha]; exact putSel_on (e := (10, 80, .bool false)) 10 rfl rfl (hon 10 (by kernel_rfl)) rfl
         replace ha := Aside0.mk ha
         have HB := Aside0.mk Q_HB
         have BX := Aside0.mk Q_BX
         refine value_ (w1 := w') (v := .bool false) (wanted_on rfl rfl rfl (e80.trans (by first | rfl | (simp [*]; done)))) rfl ?_ ?_
         ·go_simp
          (try simp only [i64_w])
          try rfl
         refine hK.out _ _ ⟨(by rw [ha.out]; exact putSel_upk 24 hb_ rfl rfl rfl), Q_HB, Q_BX⟩
      refine steps_cons ?_ ?_
      ·rintro b a w' ⟨ha, Q_HB, Q_BX⟩ hb_ hon hoff
       cases p1 with
       | true =>
        obtain rfl : true = p2 := HP2.out.symm
        refine ⟨_, rfl, fun K hK => ?_⟩
        have e80 : a.tmps[80]? = some (.bool true) := by rw [ha]; exact putSel_on (e := (10, 80, .bool true)) 10 rfl rfl (hon 10 (by kernel_rfl)) rfl
        have e94 : a.tmps[94]? = some (undef) := by rw [ha]; exact putSel_on (e := (24, 94, undef)) 24 rfl rfl (hon 24 (by kernel_rfl)) rfl
        replace ha := Aside0.mk ha
        have HB := Aside0.mk Q_HB
        have BX := Aside0.mk Q_BX
        refine value_ (w1 := w') (v := .bool true) (by rfl) rfl ?_ ?_
        ·go_simp
         (try simp only [i64_w])
         try rfl
        refine hK.out _ _ ⟨(by rw [ha.out]; exact putSel_upk 25 hb_ rfl rfl rfl), Q_HB, Q_BX⟩
       | false =>
        obtain rfl : c7 = p2 := HP2.out.symm
        refine ⟨_, rfl, fun K hK => ?_⟩
        have e80 : a.tmps[80]? = some (.bool false) := by rw [ha]; exact putSel_on (e := (10, 80, .bool false)) 10 rfl rfl (hon 10 (by kernel_rfl)) rfl
        have e94 : a.tmps[94]? = some (.bool c7) := by rw [ha]; exact putSel_on (e := (24, 94, .bool c7)) 24 rfl rfl (hon 24 (by kernel_rfl)) rfl
        replace ha := Aside0.mk ha
        have HB := Aside0.mk Q_HB
        have BX := Aside0.mk Q_BX
        refine value_ (w1 := w') (v := .bool c7) (by rfl) rfl ?_ ?_
        ·go_simp
         (try simp only [i64_w])
         try rfl
        refine hK.out _ _ ⟨(by rw [ha.out]; exact putSel_upk 25 hb_ rfl rfl rfl), Q_HB, Q_BX⟩
      exact steps_nil
     rintro b a w' hall ⟨ha, Q_HB, Q_BX⟩
     clear BX HB
     have hb0_ := hall 0 (by kernel_rfl)
     have hb1_ := hall 1 (by kernel_rfl)
     have hb2_ := hall 2 (by kernel_rfl)
     have hb3_ := hall 3 (by kernel_rfl)
     have hb4_ := hall 4 (by kernel_rfl)
     have hb5_ := hall 5 (by kernel_rfl)
     have hb6_ := hall 6 (by kernel_rfl)
     have hb7_ := hall 7 (by kernel_rfl)
     have hb8_ := hall 8 (by kernel_rfl)
     have hb9_ := hall 9 (by kernel_rfl)
     have hb10_ := hall 10 (by kernel_rfl)
     have hb11_ := hall 11 (by kernel_rfl)
     have hb12_ := hall 12 (by kernel_rfl)
     have hb13_ := hall 13 (by kernel_rfl)
     have hb14_ := hall 14 (by kernel_rfl)
     have hb15_ := hall 15 (by kernel_rfl)
     have hb16_ := hall 16 (by kernel_rfl)
     have hb17_ := hall 17 (by kernel_rfl)
     have hb18_ := hall 18 (by kernel_rfl)
     have hb19_ := hall 19 (by kernel_rfl)
     have hb20_ := hall 20 (by kernel_rfl)
     have hb21_ := hall 21 (by kernel_rfl)
     have hb22_ := hall 22 (by kernel_rfl)
     have hb23_ := hall 23 (by kernel_rfl)
     have hb24_ := hall 24 (by kernel_rfl)
     have hb25_ := hall 25 (by kernel_rfl)
     subst ha
     simp only [putSel, hb0_, hb1_, hb2_, hb3_, hb4_, hb5_, hb6_, hb7_, hb8_, hb9_, hb10_, hb11_, hb12_, hb13_, hb14_, hb15_, hb16_, hb17_, hb18_, hb19_, hb20_, hb21_, hb22_, hb23_, hb24_, hb25_, if_true, Act.put, List.setIfInBounds_toArray, List.set_cons_zero, List.set_cons_succ]
     have HB := Aside0.mk Q_HB
     clear Q_HB
     have BX := Aside0.mk Q_BX
     clear Q_BX
     clear hall hb0_ hb1_ hb2_ hb3_ hb4_ hb5_ hb6_ hb7_ hb8_ hb9_ hb10_ hb11_ hb12_ hb13_ hb14_ hb15_ hb16_ hb17_ hb18_ hb19_ hb20_ hb21_ hb22_ hb23_ hb24_ hb25_
     cases p2 with
     | true =>
      have HNO := Aside0.mk (show tableB l l2 = false by
       rw [HYES.out]
       rw [show (List.range l2.length).all (dnAt l2) = false from List.all_eq_false.2 ⟨k, List.mem_range.2 hlt, by rw [HLAST.out]; decide⟩]
       rfl)
      clear BX
      go_wp2
      go_ret
      exact ⟨by rw [HNO.out]; rfl, HB.out⟩
     | false =>
      have HALL2 := Aside0.mk (show ∀ j, j < k + 1 → dnAt l2 j = true from fun j hj => by
       rcases Nat.lt_or_ge j k with h | h
       ·exact HALL.out j h
       ·obtain rfl : j = k := by omega
        rw [HLAST.out]; rfl)
      clear BX
      go_wp2
      go_roundw
      case rel => exact ⟨k + 1, hlt, by go_num, ⟨HALL2.out, HB.out⟩⟩
      case measure => simp [intOf]; omega
    ·obtain rfl : k = l2.length := by omega
     have HYES2 := Aside0.mk (show tableB l l2 = (decide ((l.length : Int) ≤ 200) && decide ((l2.length : Int) ≤ 200)) by
      rw [HYES.out, show (List.range l2.length).all (dnAt l2) = true from List.all_eq_true.2 (fun j hj => hR.out.1 j (List.mem_range.1 hj))]
      rw [Bool.true_and]
      congr 1 <;> exact decide_eq_decide.2 (by omega))
     have HB := Aside0.mk hR.out.2
     clear hR HB0
     go_wp2
     all_goals
      go_ret
      refine ⟨?_, HB.out⟩
      rw [HYES2.out]
      first | (simp [*]; done) | (simp [*]; omega)
end Go.Proofs.Ytopfaeefhicljaa.Q
