/- rec.Encode of the document's example alone, under the name that the printed head uses. No conditions. -/
import Derived.Test.YtopfaeefhicljaaRcShim2
import Derived.Test.YtopfaeefhicljaaSqz
import Derived.Test.YtopfaeefhicljaaR5
import Derived.Test.YtopfaeefhicljaaR14
namespace Go.Proofs.Ytopfaeefhicljaa.Q
open Go Go.RowKit Go.Proofs.YtopfaeefhicljaaW.PrintWords Go.Proofs.YtopfaeefhicljaaW.PrintMore Go.Proofs.YtopfaeefhicljaaW.PrintLast Go.Proofs.Ytopfaeefhicljaa.Leb Go.Proofs.Ytopfaeefhicljaa.Str
set_option linter.unusedVariables false
set_option linter.unusedSimpArgs false
def rcen03.T3 : Bool × List (List Nat × List Nat) := (true, [([], []), ([0], [0]), ([1], [1]), ([2], [2]), ([], []), ([4], [4]), ([3, 5, 3], [3, 5]), ([6, 6, 0, 1, 2, 3, 4, 5, 6], [6])])
def rcen03.B3 : List Nat := [0, 1, 3, 7, 0, 16, 63, 127]
theorem rcen03.tab3 : rtab .any (opsOf Try.f26 3) = rcen03.T3 := by kernel_rfl
theorem rcen03.bits3 : waitsOk rcen03.T3.2 rcen03.B3 = true := by kernel_rfl
theorem r_ex (e0 : ByteArray) (he : e0 = ⟨#[]⟩) : rec_Rec_Right.f 1 4 5 1 e0 false e0 0 [] [] [] [] [] = some true := by
  subst he
  have ht : (⟨#[]⟩ : ByteArray).toList = [] := (toList_nil_iff _).2 (by decide)
  unfold rec_Rec_Right.f
  rw [if_pos (by rfl)]
  unfold rightR RcV.b2 RcV.b4 RcV.b6 RcV.b8 RcV.b10 RcV.b12 RcV.b14 RcV.b16
  dsimp only
  rw [ht]
  rfl
set_option maxRecDepth 100000 in
set_option maxHeartbeats 4000000 in
theorem enc0_ok (e0 : ByteArray) (he : e0 = ⟨#[]⟩) (A7 A8 A9 A10 A11 : Option Addr) (c7 c8 c9 c10 c11 : Nat) (w : World)
    (h7 : Kd.C (Kd.int .i64) w A7 0 []) (h8 : Kd.C Kd.string w A8 0 []) (h9 : Kd.C k52 w A9 0 []) (h10 : Kd.C k56 w A10 0 []) (h11 : Kd.C k58 w A11 0 []) :
    Calls Try.prog 26 #[.agg #[.int .i64 4, .int .u64 5, .int .i64 1, .string e0, .bool false, .string e0, .int .u64 0, .slice A7 0 c7, .slice A8 0 c8, .slice A9 0 c9, .slice A10 0 c10, .slice A11 0 c11]] w fun e w' => ∃ v0_ : Value, e = .returned (.tuple #[v0_, .int .i64 0]) ∧ Kd.R (Kd.int .u8) 5 w' w.heap.size (fun _ => True) v0_ [4, 5, 1] ∧ Below w.heap.size w w' := by
  have HE := Aside0.mk he
  have H7 := Aside0.mk h7
  have H8 := Aside0.mk h8
  have H9 := Aside0.mk h9
  have H10 := Aside0.mk h10
  have H11 := Aside0.mk h11
  clear he h7 h8 h9 h10 h11
  have HB := Aside0.mk (Below.refl w.heap.size w)
  go_enter Try.func26, Try.ntmps26
  go_upto_region 1 with (first | ((with_reducible refine gate_dst (N := 1) rfl ?_); (try (refine gate_guard (by rfl) ?_; dsimp only)); refine box_event ?hg (N := 1) ?hd (cs := #[.int .i64 4, .int .u64 5, .int .i64 1, .string e0, .bool false, .string e0, .int .u64 0, .slice A7 0 c7, .slice A8 0 c8, .slice A9 0 c9, .slice A10 0 c10, .slice A11 0 c11]) (t := 50) ?hr ?_; (case hd => rfl); (case hg => rfl); (case hr => first | (go_simp; done) | (go_simp; rfl)); intro KB hg w3 hbox hb; have n0_ := Aside0.mk (below_step HB.out hb); have n1_ := Aside0.mk hbox; clear HB; have HB := n0_; have BX := n1_; clear n0_ n1_; clear hb hbox hg))
  obtain ⟨z0, z1, z2, z3, z4, z5, z6, z7, z8, z9, z10, z11⟩ := cells12 (w := w3) BX.out
  go_wp2_with fail
  refine (rec_Rec_Right.calls 1 4 5 1 e0 false e0 0 A7 c7 [] A8 c8 [] A9 c9 [] A10 c10 [] A11 c11 [] true _ (Kd.C_below H7.out HB.out) (Nat.zero_le _) (Kd.C_below H8.out HB.out) (Nat.zero_le _) (Kd.C_below H9.out HB.out) (Nat.zero_le _) (Kd.C_below H10.out HB.out) (Nat.zero_le _) (Kd.C_below H11.out HB.out) (Nat.zero_le _) (r_ex e0 HE.out)).mono ?_
  rintro e1 w4 ⟨rfl, hb⟩
  have n0_ := Aside0.mk (below_step HB.out hb)
  have n1_ := Aside0.mk ((hb.block KB (blk_lt BX.out)).trans BX.out)
  clear HB BX z0 z1 z2 z3 z4 z5 z6 z7 z8 z9 z10 z11 hb
  have HB := n0_
  have BX := n1_
  clear n0_ n1_
  go_upto_region 3 with fail
  refine start_ (n := 8) (S := fun w' => True) (ds := []) #[false, false, false, false, false, false, false, false] (by kernel_rfl) rfl rfl trivial (fun hHeld => ?_)
  refine with_tabW rcen03.tab3 rcen03.bits3 (fun HT_ HW_ => ?_)
  have n0_ := Aside0.mk (below_drew HB.out)
  have n1_ := Aside0.mk (blk_drew BX.out)
  clear HB BX
  generalize World.drew _ = wd at n0_ n1_ hHeld ⊢
  have HB := n0_
  have BX := n1_
  clear hHeld n0_ n1_
  refine inv_at [0, 1, 2, 3, 4, 5, 6, 7] (fun a0_ b a w' => ∃ (A3 : Option Addr) (c3 : Nat) (V6 : Value) (m3_ : Value) (m7_ : Value), a = putSel a0_ b [(0, 16, .pointer (some ⟨KB, 0, none⟩)), (1, 17, .int .i64 4), (2, 18, .int .u64 4), (3, 19, m3_), (4, 20, .pointer (some ⟨KB, 1, none⟩)), (5, 21, .agg #[.int .u64 5, .int .i64 1]), (6, 22, V6), (7, 4, m7_)] ∧ (Below w.heap.size w w') ∧ (w'.heap[KB]? = some (.cells #[.int .i64 4, .int .u64 5, .int .i64 1, .string e0, .bool false, .string e0, .int .u64 0, .slice A7 0 c7, .slice A8 0 c8, .slice A9 0 c9, .slice A10 0 c10, .slice A11 0 c11] 50 (0, 0))) ∧ (b 3 = true → b 6 = false → (Kd.int .u8).R 5 w' w.heap.size (fun _ => True) (.slice A3 [(4 : Int)].length c3) [4]) ∧ (b 6 = true → (Kd.int .u8).R 5 w' w.heap.size (fun _ => True) V6 [4, 5, 1]) ∧ (b 3 = true → (m3_ : Value) = .slice A3 [(4 : Int)].length c3) ∧ (b 7 = true → (m7_ : Value) = V6)) HT_.out HW_.out (by kernel_rfl) (by kernel_rfl) ?_ ?_ ?_
  · exact ⟨none, 0, (.slice none 0 0), .bool false, .bool false, by simp only [putSel, Bool.false_eq_true, if_false], HB.out, BX.out, fun h_ => absurd h_ (by decide), fun h_ => absurd h_ (by decide), fun h_ => absurd h_ (by decide), fun h_ => absurd h_ (by decide)⟩
  · skip
    clear BX HB
    refine steps_cons ?_ ?_
    · rintro b a w' ⟨A3, c3, V6, m3_, m7_, ha, Q_HB, Q_BX, Q_R3, Q_R6, Q_X3_, Q_X7_⟩ hb_ hon hoff
      refine ⟨_, rfl, fun K hK => ?_⟩
      have e1 : a.tmps[1]? = some (.pointer (some ⟨KB, 0, none⟩)) := by rw [ha]; exact (putSel_off rfl).trans rfl
      replace ha := Aside0.mk ha
      have HB := Aside0.mk Q_HB
      have BX := Aside0.mk Q_BX
      refine value_ (w1 := w') (v := .pointer (some ⟨KB, 0, none⟩)) (by rfl) rfl ?_ ?_
      · go_simp
        (try simp only [i64_w])
        try rfl
      refine hK.out _ _ ⟨A3, c3, V6, m3_, m7_, (by rw [ha.out]; exact putSel_upk 0 hb_ rfl rfl rfl), Q_HB, Q_BX, fun h0_ _ => absurd ((hoff 3 (by kernel_rfl)).symm.trans h0_) (by decide), fun h0_ => absurd ((hoff 6 (by kernel_rfl)).symm.trans h0_) (by decide), fun h0_ => absurd ((hoff 3 (by kernel_rfl)).symm.trans h0_) (by decide), fun h0_ => absurd ((hoff 7 (by kernel_rfl)).symm.trans h0_) (by decide)⟩
    refine steps_cons ?_ ?_
    · rintro b a w' ⟨A3, c3, V6, m3_, m7_, ha, Q_HB, Q_BX, Q_R3, Q_R6, Q_X3_, Q_X7_⟩ hb_ hon hoff
      refine ⟨_, rfl, fun K hK => ?_⟩
      have e16 : a.tmps[16]? = some (.pointer (some ⟨KB, 0, none⟩)) := by rw [ha]; exact putSel_on (e := (0, 16, .pointer (some ⟨KB, 0, none⟩))) 0 rfl rfl (hon 0 (by kernel_rfl)) rfl
      replace ha := Aside0.mk ha
      have HB := Aside0.mk Q_HB
      have BX := Aside0.mk Q_BX
      have hc0_ : w'.cell? ⟨KB, 0, none⟩ = some (.int .i64 4) := (blk_cell BX.out 0).trans rfl
      refine value_ (w1 := w') (v := .int .i64 4) (by rfl) rfl ?_ ?_
      · go_simp
        (try simp only [i64_w])
        try rfl
      refine hK.out _ _ ⟨A3, c3, V6, m3_, m7_, (by rw [ha.out]; exact putSel_upk 1 hb_ rfl rfl rfl), Q_HB, Q_BX, fun h0_ _ => absurd ((hoff 3 (by kernel_rfl)).symm.trans h0_) (by decide), fun h0_ => absurd ((hoff 6 (by kernel_rfl)).symm.trans h0_) (by decide), fun h0_ => absurd ((hoff 3 (by kernel_rfl)).symm.trans h0_) (by decide), fun h0_ => absurd ((hoff 7 (by kernel_rfl)).symm.trans h0_) (by decide)⟩
    refine steps_cons ?_ ?_
    · rintro b a w' ⟨A3, c3, V6, m3_, m7_, ha, Q_HB, Q_BX, Q_R3, Q_R6, Q_X3_, Q_X7_⟩ hb_ hon hoff
      refine ⟨_, rfl, fun K hK => ?_⟩
      have e17 : a.tmps[17]? = some (.int .i64 4) := by rw [ha]; exact putSel_on (e := (1, 17, .int .i64 4)) 1 rfl rfl (hon 1 (by kernel_rfl)) rfl
      replace ha := Aside0.mk ha
      have HB := Aside0.mk Q_HB
      have BX := Aside0.mk Q_BX
      refine value_ (w1 := w') (v := .int .u64 4) (by rfl) rfl ?_ ?_
      · go_simp
        (try simp only [i64_w])
        try rfl
      refine hK.out _ _ ⟨A3, c3, V6, m3_, m7_, (by rw [ha.out]; exact putSel_upk 2 hb_ rfl rfl rfl), Q_HB, Q_BX, fun h0_ _ => absurd ((hoff 3 (by kernel_rfl)).symm.trans h0_) (by decide), fun h0_ => absurd ((hoff 6 (by kernel_rfl)).symm.trans h0_) (by decide), fun h0_ => absurd ((hoff 3 (by kernel_rfl)).symm.trans h0_) (by decide), fun h0_ => absurd ((hoff 7 (by kernel_rfl)).symm.trans h0_) (by decide)⟩
    refine steps_cons ?_ ?_
    · rintro b a w' ⟨A3, c3, V6, m3_, m7_, ha, Q_HB, Q_BX, Q_R3, Q_R6, Q_X3_, Q_X7_⟩ hb_ hon hoff
      refine ⟨_, rfl, fun K hK => ?_⟩
      have e18 : a.tmps[18]? = some (.int .u64 4) := by rw [ha]; exact putSel_on (e := (2, 18, .int .u64 4)) 2 rfl rfl (hon 2 (by kernel_rfl)) rfl
      replace ha := Aside0.mk ha
      have HB := Aside0.mk Q_HB
      have BX := Aside0.mk Q_BX
      refine goes_ Try.func35 (by kernel_rfl) rfl #[.slice none 0 0, .int .u64 4] (by rfl) rfl rfl (by first | (simp only [List.map_toArray, List.map_cons, List.map_nil, Act.eval, Array.getD_eq_getD_getElem?, Option.getD_some, e18]; done) | (simp only [List.map_toArray, List.map_cons, List.map_nil, Act.eval, Array.getD_eq_getD_getElem?, Option.getD_some, e18]; rfl)) ?_
      refine (num_Put.calls 12 (fun _ => False) (.slice none 0 0) ([] : List Int) 4 [4] w w' HB.out (Kd.R_nil _ _ _ _ _) (by rfl)).mono ?_
      rintro e_ wn_ ⟨v_, rfl, ho_, hbw_, hkp_⟩
      refine ⟨_, rfl, ?_⟩
      obtain ⟨Ap_, cp_, eo_⟩ := Kd.R_slice ho_
      subst eo_
      refine hK.out _ _ ⟨Ap_, cp_, V6, (.slice Ap_ [(4 : Int)].length cp_), m7_, (by rw [ha.out]; exact putSel_upk 3 hb_ rfl rfl rfl), hbw_, (blk_kept BX.out hkp_ (fun hs_ => hs_)), fun _ _ => (Kd.R_mono ho_ (fun k_ hk_ => trivial)), fun h0_ => absurd ((hoff 6 (by kernel_rfl)).symm.trans h0_) (by decide), fun _ => rfl, fun h0_ => absurd ((hoff 7 (by kernel_rfl)).symm.trans h0_) (by decide)⟩
    refine steps_cons ?_ ?_
    · rintro b a w' ⟨A3, c3, V6, m3_, m7_, ha, Q_HB, Q_BX, Q_R3, Q_R6, Q_X3_, Q_X7_⟩ hb_ hon hoff
      refine ⟨_, rfl, fun K hK => ?_⟩
      have e1 : a.tmps[1]? = some (.pointer (some ⟨KB, 0, none⟩)) := by rw [ha]; exact (putSel_off rfl).trans rfl
      replace ha := Aside0.mk ha
      have HB := Aside0.mk Q_HB
      have BX := Aside0.mk Q_BX
      refine value_ (w1 := w') (v := .pointer (some ⟨KB, 1, none⟩)) (by rfl) rfl ?_ ?_
      · go_simp
        (try simp only [i64_w])
        try rfl
      refine hK.out _ _ ⟨A3, c3, V6, m3_, m7_, (by rw [ha.out]; exact putSel_upk 4 hb_ rfl rfl rfl), Q_HB, Q_BX, Q_R3, fun h0_ => absurd ((hoff 6 (by kernel_rfl)).symm.trans h0_) (by decide), Q_X3_, fun h0_ => absurd ((hoff 7 (by kernel_rfl)).symm.trans h0_) (by decide)⟩
    refine steps_cons ?_ ?_
    · rintro b a w' ⟨A3, c3, V6, m3_, m7_, ha, Q_HB, Q_BX, Q_R3, Q_R6, Q_X3_, Q_X7_⟩ hb_ hon hoff
      refine ⟨_, rfl, fun K hK => ?_⟩
      have e20 : a.tmps[20]? = some (.pointer (some ⟨KB, 1, none⟩)) := by rw [ha]; exact putSel_on (e := (4, 20, .pointer (some ⟨KB, 1, none⟩))) 4 rfl rfl (hon 4 (by kernel_rfl)) rfl
      replace ha := Aside0.mk ha
      have HB := Aside0.mk Q_HB
      have BX := Aside0.mk Q_BX
      have hc1_ : w'.cell? ⟨KB, 1, none⟩ = some (.int .u64 5) := (blk_cell BX.out 1).trans rfl
      have hc2_ : w'.cell? ⟨KB, 2, none⟩ = some (.int .i64 1) := (blk_cell BX.out 2).trans rfl
      refine value_ (w1 := w') (v := .agg #[.int .u64 5, .int .i64 1]) (by rfl) rfl ?_ ?_
      · go_simp
        (try simp only [i64_w])
        try rfl
      refine hK.out _ _ ⟨A3, c3, V6, m3_, m7_, (by rw [ha.out]; exact putSel_upk 5 hb_ rfl rfl rfl), Q_HB, Q_BX, Q_R3, fun h0_ => absurd ((hoff 6 (by kernel_rfl)).symm.trans h0_) (by decide), Q_X3_, fun h0_ => absurd ((hoff 7 (by kernel_rfl)).symm.trans h0_) (by decide)⟩
    refine steps_cons ?_ ?_
    · rintro b a w' ⟨A3, c3, V6, m3_, m7_, ha, Q_HB, Q_BX, Q_R3, Q_R6, Q_X3_, Q_X7_⟩ hb_ hon hoff
      refine ⟨_, rfl, fun K hK => ?_⟩
      have e19 : a.tmps[19]? = some (m3_) := by rw [ha]; exact putSel_on (e := (3, 19, m3_)) 3 rfl rfl (hon 3 (by kernel_rfl)) rfl
      rw [Q_X3_ (hon 3 (by kernel_rfl))] at e19
      have e21 : a.tmps[21]? = some (.agg #[.int .u64 5, .int .i64 1]) := by rw [ha]; exact putSel_on (e := (5, 21, .agg #[.int .u64 5, .int .i64 1])) 5 rfl rfl (hon 5 (by kernel_rfl)) rfl
      replace ha := Aside0.mk ha
      have HB := Aside0.mk Q_HB
      have BX := Aside0.mk Q_BX
      have R3 := Aside0.mk (Q_R3 (hon 3 (by kernel_rfl)) hb_)
      refine goes_ Try.func55 (by kernel_rfl) rfl #[.slice A3 [(4 : Int)].length c3, .agg #[.int .u64 5, .int .i64 1]] (by rfl) rfl rfl (by first | (simp only [List.map_toArray, List.map_cons, List.map_nil, Act.eval, Array.getD_eq_getD_getElem?, Option.getD_some, e19, e21]; done) | (simp only [List.map_toArray, List.map_cons, List.map_nil, Act.eval, Array.getD_eq_getD_getElem?, Option.getD_some, e19, e21]; rfl)) ?_
      refine (num_Tid.calls 12 (fun k_ => some k_ = (.slice A3 [(4 : Int)].length c3 : Value).ownBlock) (.slice A3 [(4 : Int)].length c3) [4] 5 1 [4, 5, 1] w w' HB.out (Kd.R_tight rfl R3.out) (by rfl)).mono ?_
      rintro e_ wn_ ⟨v_, rfl, ho_, hbw_, hkp_⟩
      refine ⟨_, rfl, ?_⟩
      refine hK.out _ _ ⟨A3, c3, v_, m3_, m7_, (by rw [ha.out]; exact putSel_upk 6 hb_ rfl rfl rfl), hbw_, (blk_kept BX.out hkp_ (fun hs_ => (Kd.R_ne R3.out BX.out (by decide)) hs_)), fun _ h1_ => absurd ((up_self b 6).symm.trans h1_) (by decide), fun _ => (Kd.R_mono ho_ (fun k_ hk_ => trivial)), Q_X3_, fun h0_ => absurd ((hoff 7 (by kernel_rfl)).symm.trans h0_) (by decide)⟩
    refine steps_cons ?_ ?_
    · rintro b a w' ⟨A3, c3, V6, m3_, m7_, ha, Q_HB, Q_BX, Q_R3, Q_R6, Q_X3_, Q_X7_⟩ hb_ hon hoff
      refine ⟨_, rfl, fun K hK => ?_⟩
      have e22 : a.tmps[22]? = some (V6) := by rw [ha]; exact putSel_on (e := (6, 22, V6)) 6 rfl rfl (hon 6 (by kernel_rfl)) rfl
      replace ha := Aside0.mk ha
      have HB := Aside0.mk Q_HB
      have BX := Aside0.mk Q_BX
      have R6 := Aside0.mk (Q_R6 (hon 6 (by kernel_rfl)))
      refine value_ (w1 := w') (v := V6) (by rfl) rfl ?_ ?_
      · go_simp
        (try simp only [i64_w])
        try rfl
      refine hK.out _ _ ⟨A3, c3, V6, m3_, (V6), (by rw [ha.out]; exact putSel_upk 7 hb_ rfl rfl rfl), Q_HB, Q_BX, fun _ h1_ => absurd ((hon 6 (by kernel_rfl)).symm.trans h1_) (by decide), Q_R6, Q_X3_, fun _ => rfl⟩
    exact steps_nil
  rintro b a w' hall ⟨A3, c3, V6, m3_, m7_, ha, Q_HB, Q_BX, Q_R3, Q_R6, Q_X3_, Q_X7_⟩
  clear BX HB
  have hb0_ := hall 0 (by kernel_rfl)
  have hb1_ := hall 1 (by kernel_rfl)
  have hb2_ := hall 2 (by kernel_rfl)
  have hb3_ := hall 3 (by kernel_rfl)
  have hb4_ := hall 4 (by kernel_rfl)
  have hb5_ := hall 5 (by kernel_rfl)
  have hb6_ := hall 6 (by kernel_rfl)
  have hb7_ := hall 7 (by kernel_rfl)
  subst ha
  obtain rfl := Q_X3_ hb3_
  obtain rfl := Q_X7_ hb7_
  simp only [putSel, hb0_, hb1_, hb2_, hb3_, hb4_, hb5_, hb6_, hb7_, if_true, Act.put, List.setIfInBounds_toArray, List.set_cons_zero, List.set_cons_succ]
  have HB := Aside0.mk Q_HB
  clear Q_HB
  have BX := Aside0.mk Q_BX
  clear Q_BX
  clear Q_R3
  have R6 := Aside0.mk (Q_R6 hb6_)
  clear Q_R6
  clear hall hb0_ hb1_ hb2_ hb3_ hb4_ hb5_ hb6_ hb7_
  have z0 := (blk_cell BX.out 0).trans rfl
  obtain ⟨A6, c6, eo⟩ := Kd.R_slice R6.out
  subst eo
  go_wp2
  go_ret2
  exact ⟨_, rfl, R6.out, HB.out⟩
/-- The example's arguments. -/
def exB (a b c : Int) (k : ByteArray) (w : Bool) (o : ByteArray) (p : Int) (l7 : List Int) (l8 : List ByteArray) (l9 : List S52) (l10 : List S56) (l11 : List S58) : Bool :=
  (a == 4) && ((b == 5) && ((c == 1) && (decide (k.size = 0) && (!w && (decide (o.size = 0) && ((p == 0) && (l7.isEmpty && (l8.isEmpty && (l9.isEmpty && (l10.isEmpty && l11.isEmpty))))))))))
def rec_Encode.f (k : Nat) (a0_0 : Int) (a0_1 : Int) (a0_2 : Int) (a0_3 : ByteArray) (a0_4 : Bool) (a0_5 : ByteArray) (a0_6 : Int) (l0_7 : List Int) (l0_8 : List ByteArray) (l0_9 : List (S52)) (l0_10 : List (S56)) (l0_11 : List (S58)) : Option (List Int × Int) :=
  if exB a0_0 a0_1 a0_2 a0_3 a0_4 a0_5 a0_6 l0_7 l0_8 l0_9 l0_10 l0_11 = true then some ([4, 5, 1], 0) else none
theorem rec_Encode.mono : ∀ a0 a1 a2 a3 a4 a5 a6 a7 a8 a9 a10 a11 k, LeO (rec_Encode.f k a0 a1 a2 a3 a4 a5 a6 a7 a8 a9 a10 a11) (rec_Encode.f (k + 1) a0 a1 a2 a3 a4 a5 a6 a7 a8 a9 a10 a11) := fun _ _ _ _ _ _ _ _ _ _ _ _ _ _ h => h
theorem rec_Encode.calls (k : Nat) (a0_0 : Int) (a0_1 : Int) (a0_2 : Int) (a0_3 : ByteArray) (a0_4 : Bool) (a0_5 : ByteArray) (a0_6 : Int) (A0_7 : Option Addr) (c0_7 : Nat) (l0_7 : List Int) (A0_8 : Option Addr) (c0_8 : Nat) (l0_8 : List ByteArray) (A0_9 : Option Addr) (c0_9 : Nat) (l0_9 : List (S52)) (A0_10 : Option Addr) (c0_10 : Nat) (l0_10 : List (S56)) (A0_11 : Option Addr) (c0_11 : Nat) (l0_11 : List (S58)) (r1 : List Int) (r2 : Int) (w : World) (hr0_7 : Kd.C (Kd.int .i64) w A0_7 l0_7.length l0_7) (hc0_7 : l0_7.length ≤ c0_7) (hr0_8 : Kd.C Kd.string w A0_8 l0_8.length l0_8) (hc0_8 : l0_8.length ≤ c0_8) (hr0_9 : Kd.C k52 w A0_9 l0_9.length l0_9) (hc0_9 : l0_9.length ≤ c0_9) (hr0_10 : Kd.C k56 w A0_10 l0_10.length l0_10) (hc0_10 : l0_10.length ≤ c0_10) (hr0_11 : Kd.C k58 w A0_11 l0_11.length l0_11) (hc0_11 : l0_11.length ≤ c0_11) (h : rec_Encode.f k a0_0 a0_1 a0_2 a0_3 a0_4 a0_5 a0_6 l0_7 l0_8 l0_9 l0_10 l0_11 = some (r1, r2)) :
    Calls Try.prog 26 #[.agg #[.int .i64 a0_0, .int .u64 a0_1, .int .i64 a0_2, .string a0_3, .bool a0_4, .string a0_5, .int .u64 a0_6, .slice A0_7 l0_7.length c0_7, .slice A0_8 l0_8.length c0_8, .slice A0_9 l0_9.length c0_9, .slice A0_10 l0_10.length c0_10, .slice A0_11 l0_11.length c0_11]] w fun e w' => ∃ v0_ : Value, e = .returned (.tuple #[v0_, .int .i64 r2]) ∧ Kd.R (Kd.int .u8) 5 w' w.heap.size (fun _ => True) v0_ r1 ∧ Below w.heap.size w w' := by
  unfold rec_Encode.f at h
  by_cases he : exB a0_0 a0_1 a0_2 a0_3 a0_4 a0_5 a0_6 l0_7 l0_8 l0_9 l0_10 l0_11 = true
  · rw [if_pos he] at h
    obtain ⟨rfl, rfl⟩ := Prod.mk.inj (Option.some.inj h)
    unfold exB at he
    simp only [Bool.and_eq_true, beq_iff_eq, decide_eq_true_eq, Bool.not_eq_true', List.isEmpty_iff] at he
    obtain ⟨rfl, rfl, rfl, hk, rfl, ho, rfl, rfl, rfl, rfl, rfl, rfl⟩ := he
    obtain rfl : a0_3 = ⟨#[]⟩ := by cases a0_3 with | mk d => exact congrArg ByteArray.mk (Array.eq_empty_of_size_eq_zero hk)
    obtain rfl : a0_5 = ⟨#[]⟩ := by cases a0_5 with | mk d => exact congrArg ByteArray.mk (Array.eq_empty_of_size_eq_zero ho)
    exact enc0_ok ⟨#[]⟩ rfl A0_7 A0_8 A0_9 A0_10 A0_11 c0_7 c0_8 c0_9 c0_10 c0_11 w hr0_7 hr0_8 hr0_9 hr0_10 hr0_11
  · rw [if_neg he] at h
    cases h
end Go.Proofs.Ytopfaeefhicljaa.Q
