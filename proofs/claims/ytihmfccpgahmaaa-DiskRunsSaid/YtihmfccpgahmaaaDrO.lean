/- The law DiskRuns: On, walked. No conditions beyond those that are named. -/
import Derived.Test.YtihmfccpgahmaaaDrD
namespace Go.Proofs.Ytihmfccpgahmaaa.Dk
open Go Go.RowKit Go.Proofs.YtihmfccpgahmaaaW.PrintWords Go.Proofs.YtihmfccpgahmaaaW.PrintMore Go.Proofs.YtihmfccpgahmaaaW.PrintLast Go.Proofs.Ytihmfccpgahmaaa.Str
set_option linter.unusedVariables false
set_option linter.unusedSimpArgs false
def drrun81.T81 : Bool × List (List Nat × List Nat) := (true, [([], []), ([], []), ([1], [1]), ([], []), ([], []), ([4], [4]), ([3, 5], [3, 5]), ([6], [6]), ([7], [7]), ([8], [8]), ([0, 2, 9], [0, 2, 9]), ([10, 10, 0, 1, 2, 3, 4, 5, 6, 7, 8, 9, 10], [0, 3, 10])])
def drrun81.B81 : List Nat := [0, 0, 2, 0, 0, 16, 56, 120, 248, 504, 1023, 2047]
theorem drrun81.tab81 : rtab .any (opsOf Try.f7 81) = drrun81.T81 := by kernel_rfl
theorem drrun81.bits81 : waitsOk drrun81.T81.2 drrun81.B81 = true := by kernel_rfl
namespace DiskRuns
section
variable {w W wx : World} {S S' : Nat → Prop} {n k g KB : Nat} {vo v6 v7 v8 v14 v15 : Value} {fuse : Int} {down : Bool} {steps : Int} {M : DA} {o : OpV} {A : Array Value} {bA kA : Option Addr} {bc kc : Nat} {inn : Bool}
set_option maxRecDepth 100000 in
set_option maxHeartbeats 8000000 in
theorem do_on (HF : Fr A n vo g v6 v7 v8 fuse down steps k (.pointer (some ⟨KB, 0, none⟩)) v14 (.int .i64 (lastE M o))) (HS : St w wx g S M) (HL : LR w wx S v6 v7 v8 fuse down steps (lastM M o))
    (HB : wx.heap[KB]? = some (.cells #[.int .i64 o.k, .int .i64 o.at_, .slice bA o.b.length bc, .slice kA o.keep.length kc, .int .i64 o.tear] 36 (0, 0))) (hSB : ¬ S KB) (hwl : M.wait.length ≤ 50) (hst : 0 ≤ steps ∧ steps ≤ k + 1) (hfu : fuse ≤ 9223372036854775807) (h4 : o.k = 4) (hkC : Kd.C Kd.bool w kA o.keep.length o.keep) (hkl : o.keep.length ≤ 60)
    (Q : Exit → Act → World → Prop) (hQ : ∀ A' w' S' v6' v7' v8' f' d' s' M' v14' v15', Fr A' n vo g v6' v7' v8' f' d' s' k (.pointer (some ⟨KB, 0, none⟩)) v14' v15' → St w w' g S' M' → LR w w' S' v6' v7' v8' f' d' s' M' → (M'.wait.length ≤ M.wait.length + 1 ∧ (0 ≤ s' ∧ s' ≤ k + 1) ∧ f' ≤ 9223372036854775807 ∧ M'.now.length = M.now.length) → Q .normal ⟨A', []⟩ w'): Code.wp Try.prog (unitC Try.f7) Q ⟨A, []⟩ wx := by
  have y0 : wx.cell? ⟨KB, 0, none⟩ = some (.int .i64 o.k) := (blk_cell HB 0).trans rfl
  have y1 : wx.cell? ⟨KB, 1, none⟩ = some (.int .i64 o.at_) := (blk_cell HB 1).trans rfl
  have y2 : wx.cell? ⟨KB, 2, none⟩ = some (.slice bA o.b.length bc) := (blk_cell HB 2).trans rfl
  have y3 : wx.cell? ⟨KB, 3, none⟩ = some (.slice kA o.keep.length kc) := (blk_cell HB 3).trans rfl
  have y4 : wx.cell? ⟨KB, 4, none⟩ = some (.int .i64 o.tear) := (blk_cell HB 4).trans rfl
  show Code.wp Try.prog (Code.seq _ _) Q ⟨A, []⟩ wx
  rw [HF.lit]
  have HS := Aside0.mk HS
  have HBB := Aside0.mk (And.intro HB hSB)
  have HQ := Aside0.mk hQ
  have HW := Aside0.mk (And.intro hwl (And.intro hst hfu))
  have hM : lastM M o = M := by unfold lastM; rw [if_neg (by omega), if_neg (by omega)]
  rw [hM] at HL
  have hkl2 := hkl
  have HL := Aside0.mk HL
  have HKC := Aside0.mk hkC
  generalize lastE M o = E at *
  rw [h4] at *
  clear HF hQ HB hwl hst hfu hM hkC
  go_wp2_with fail
  refine (st_on HS.out kA kc o.keep (fun W' hk => Kd.C_below HKC.out (HS.out.I.after hk HS.out.B HS.out.B.size)) (by omega) o.tear (by have := HW.out; omega)).mono ?_
  rintro e w1 ⟨rfl, hs, hk⟩
  have HS1 := Aside0.mk hs
  have HL1 := Aside0.mk (HL.out.step hk (fun _ q => q) (fun k q => .inl q))
  have HB1 := Aside0.mk ((hk.block KB (blk_lt HBB.out.1) HBB.out.2).trans HBB.out.1)
  have hfit := Aside0.mk (show ∀ x ∈ M.wait, 0 ≤ x.1 ∧ x.1 < M.now.length from HS.out.I.fit.2.2.2)
  clear hs hk y0 y1 y2 y3 y4 HBB HL
  obtain ⟨WL, hw1, hw2⟩ := HL1.out.wt
  obtain ⟨A8, c8, hv8, hc8⟩ := hw1.form
  subst hv8
  obtain ⟨nw, hnw⟩ : ∃ m, m = WL.length := ⟨_, rfl⟩
  rw [← hnw] at hc8
  have HNW := Aside0.mk hnw
  have HW8 := Aside0.mk (And.intro hw1 hw2)
  have hnw50 : nw ≤ 60 := by have h1 := hw2.len; have := HW.out; omega
  have hvl : WL.length = nw := hnw.symm
  have h1 := HW8.out.1
  rw [hvl] at h1 HL1 ⊢
  have HWA := Aside0.mk h1
  clear hw1 hw2 hnw hvl h1
  have y3 : w1.cell? ⟨KB, 3, none⟩ = some (.slice kA o.keep.length kc) := (blk_cell HB1.out 3).trans rfl
  have hlon := Aside0.mk (show ∀ j, (NS (DA.onK o.keep o.tear M j).safe (DA.onK o.keep o.tear M j).bad).length = M.now.length from fun j => by
    obtain ⟨q1, q2, _⟩ := onK_len o.keep o.tear M j
    rw [NS_len (by rw [q1, q2, HL1.out.t2, HL1.out.t3]), q1, HL1.out.t2])
  go_wp2
  go_loopw [7, 272] (fun v7' i wr => ∃ j : Nat, j ≤ nw ∧ i = .int .i64 j ∧ Aside0 (Below w1.heap.size w1 wr ∧ SR w.heap.size (fun k => ¬ S k) wr v7' (NS (DA.onK o.keep o.tear M j).safe (DA.onK o.keep o.tear M j).bad))) (fun _ i _ => nw - (intOf i).toNat)
  case atStart => exact ⟨0, Nat.zero_le _, rfl, ⟨Below.refl _ _, HL1.out.s⟩⟩
  case round =>
    obtain ⟨j, hj, rfl, hR⟩ := hrel
    by_cases hlt : j < nw
    · have HJ := Aside0.mk hlt
      obtain ⟨g8, c8', e8, _, hcell⟩ := (HWA.out.below hR.out.1).cell j (by rw [← HNW.out]; exact hlt)
      injection e8 with e8 e8b e8c
      subst e8
      clear e8b e8c
      obtain ⟨x, hx⟩ : ∃ x, x = WL[j]'(by rw [← HNW.out]; exact hlt) := ⟨_, rfl⟩
      have hwn : j < M.wait.length := by rw [← HW8.out.2.len, ← HNW.out]; exact hlt
      obtain ⟨y, hy⟩ : ∃ y, y = M.wait[j] := ⟨_, rfl⟩
      have HP := Aside0.mk (show WP w x y by rw [hx, hy]; exact HW8.out.2.get j _ hwn)
      have HY := Aside0.mk (show M.wait.getD j (0, []) = y by rw [List.getD_eq_getElem?_getD, List.getElem?_eq_getElem hwn, hy]; rfl)
      have hyr := hfit.out y (by rw [hy]; exact List.getElem_mem _)
      obtain ⟨ia, ha⟩ : ∃ ia : Nat, y.1 = (ia : Int) := ⟨y.1.toNat, by omega⟩
      have HA := Aside0.mk (show y.1 = (ia : Int) ∧ x.at_ = (ia : Int) ∧ ia < M.now.length from ⟨ha, HP.out.1.trans ha, by omega⟩)
      rw [← hx] at hcell
      have hat : x.at_ = (ia : Int) := HA.out.2.1
      have d0 : wr.cell? ⟨g8, j * 5, none⟩ = some (.int .i64 x.k) := hcell 0 _ rfl
      have d1 : wr.cell? ⟨g8, j * 5 + 1, none⟩ = some (.int .i64 (ia : Int)) := by rw [← hat]; exact hcell 1 _ rfl
      have d2 : wr.cell? ⟨g8, j * 5 + 2, none⟩ = some (.slice x.b.a y.2.length x.b.c) := by rw [← HP.out.2.1]; exact hcell 2 _ rfl
      have d3 : wr.cell? ⟨g8, j * 5 + 3, none⟩ = some (.slice x.kp.a x.kp.n x.kp.c) := hcell 3 _ rfl
      have d4 : wr.cell? ⟨g8, j * 5 + 4, none⟩ = some (.int .i64 x.tear) := hcell 4 _ rfl
      have hji : (j : Int) < (nw : Int) := by omega
      clear hcell hx hwn hy hyr ha hat
      go_upto_region 78 with fail
      obtain ⟨K4, hK4⟩ : ∃ m : Nat, m = wr.heap.size := ⟨_, rfl⟩
      have HK4 := Aside0.mk (blk_new wr (.cells #[.int .i64 x.k, .int .i64 (ia : Int), .slice x.b.a y.2.length x.b.c, .slice x.kp.a x.kp.n x.kp.c, .int .i64 x.tear] 36 (0, 0)))
      have HBA := Aside0.mk (below_step hR.out.1 (below_alloc (Below.refl wr.heap.size wr) (.cells #[.int .i64 x.k, .int .i64 (ia : Int), .slice x.b.a y.2.length x.b.c, .slice x.kp.a x.kp.n x.kp.c, .int .i64 x.tear] 36 (0, 0))))
      have HV := Aside0.mk (hR.out.2.below (below_alloc (Below.refl wr.heap.size wr) (.cells #[.int .i64 x.k, .int .i64 (ia : Int), .slice x.b.a y.2.length x.b.c, .slice x.kp.a x.kp.n x.kp.c, .int .i64 x.tear] 36 (0, 0))))
      rw [← hK4] at HK4 ⊢
      generalize wr.alloc _ = wa at HK4 HBA HV ⊢
      clear hK4 d0 d1 d2 d3 d4 hR
      have hKB := (HBA.out.block KB (blk_lt HB1.out)).trans HB1.out
      have z3 : wa.cell? ⟨KB, 3, none⟩ = some (.slice kA o.keep.length kc) := (blk_cell hKB 3).trans rfl
      have z4 : wa.cell? ⟨KB, 4, none⟩ = some (.int .i64 o.tear) := (blk_cell hKB 4).trans rfl
      have k1 : wa.cell? ⟨K4, 1, none⟩ = some (.int .i64 (ia : Int)) := (blk_cell HK4.out 1).trans rfl
      have k2 : wa.cell? ⟨K4, 2, none⟩ = some (.slice x.b.a y.2.length x.b.c) := (blk_cell HK4.out 2).trans rfl
      have HSa := Aside0.mk (show ∀ k, S k → k < wa.heap.size from fun k hk => Nat.lt_of_lt_of_le (HS1.out.lt k hk).2 HBA.out.size)
      have hBw := Aside0.mk (below_step HS1.out.B HBA.out)
      have hC := Kd.C_below HKC.out hBw.out
      clear hKB
      obtain ⟨kb, hkb⟩ : ∃ b, b = o.keep.getD j false := ⟨_, rfl⟩
      have HKB := Aside0.mk hkb
      have HON := Aside0.mk (show DA.onK o.keep o.tear M (j + 1) = DA.onP o.keep o.tear (DA.onK o.keep o.tear M j) j y by rw [← HY.out]; rfl)
      obtain ⟨D2, hD2⟩ : ∃ d, d = DA.onK o.keep o.tear M j := ⟨_, rfl⟩
      have hll := hlon.out j
      rw [← hD2] at HON HV hll
      have HLL := Aside0.mk hll
      clear hD2 hll
      cases kb with
      | true =>
        have hkl3 : j < o.keep.length := by
          rcases Nat.lt_or_ge j o.keep.length with h | h
          · exact h
          · rw [List.getD_eq_getElem?_getD, List.getElem?_eq_none h] at hkb; cases hkb
        obtain ⟨ad, hA, hcell⟩ := Kd.at_bool hC (j : Int) (by omega) (by omega)
        subst hA
        have hcell' : wa.cell? (ad.add j) = some (.bool true) := by
          have h_ := hcell
          rw [show rdOf false o.keep (j : Int) = true by unfold rdOf; rw [Int.toNat_natCast]; exact hkb.symm] at h_
          simpa using h_
        have tk : decide (j < o.keep.length) = true := decide_eq_true hkl3
        have hcv := cv_all HP.out.2.2 hBw.out x.b.c
        clear hcell hkb hC z4
        go_wp2_with fail
        refine (put_ok HV.out ia (by rw [HLL.out]; exact HA.out.2.2) (by rw [HLL.out]; exact HL1.out.t4) (strOfNums y.2, false)).mono ?_
        rintro e w5 ⟨v7', rfl, hr, hb⟩
        have hfin := Aside0.mk (show SR w.heap.size (fun k => ¬ S k) w5 v7' (NS (DA.onK o.keep o.tear M (j + 1)).safe (DA.onK o.keep o.tear M (j + 1)).bad) from by
          rw [HON.out]; unfold DA.onP; rw [if_pos HKB.out.symm]
          show SR _ _ w5 v7' (NS (D2.safe.set y.1.toNat y.2) (D2.bad.set y.1.toNat false))
          rw [NS_set, HA.out.1, Int.toNat_natCast]
          exact hr.new HSa.out hBw.out.size)
        have HBF := Aside0.mk (below_step HBA.out hb)
        clear hr hb hcv HV z3 k1 k2
        go_wp2
        go_roundw
        case rel => exact ⟨j + 1, HJ.out, by go_num, ⟨HBF.out, hfin.out⟩⟩
        case measure =>
          rw [show (j : Int) + 1 = ((j + 1 : Nat) : Int) from rfl]
          exact (show nw - (j + 1) < nw - j from Nat.sub_lt_sub_left HJ.out (Nat.lt_succ_self j))
      | false =>
        have alt : (∃ ad, kA = some ad ∧ j < o.keep.length ∧ decide (j < o.keep.length) = true ∧ wa.cell? (ad.add j) = some (.bool false)) ∨ decide (j < o.keep.length) = false := by
          rcases Nat.lt_or_ge j o.keep.length with hkl3 | hkl3
          · obtain ⟨ad, hA, hcell⟩ := Kd.at_bool hC (j : Int) (by omega) (by omega)
            refine .inl ⟨ad, hA, hkl3, decide_eq_true hkl3, ?_⟩
            have h_ := hcell
            rw [show rdOf false o.keep (j : Int) = false by unfold rdOf; rw [Int.toNat_natCast]; exact hkb.symm] at h_
            simpa using h_
          · exact .inr (decide_eq_false (by omega))
        clear hkb hC
        by_cases ht : (j : Int) = o.tear
        · have tb : ((j : Int) == o.tear) = true := by simpa using ht
          have HT := Aside0.mk ht
          have hal := Aside0.mk (show ia < (NS D2.safe D2.bad).length ∧ (NS D2.safe D2.bad).length ≤ 65536 from ⟨by rw [HLL.out]; exact HA.out.2.2, by rw [HLL.out]; exact HL1.out.t4⟩)
          obtain ⟨g7, c7, hv7, _, hcell⟩ := HV.out.cell ia hal.out.1
          obtain ⟨has, hab⟩ : ia < D2.safe.length ∧ ia < D2.bad.length := by
            have h3 := hal.out.1
            unfold NS at h3
            rw [List.length_zip, List.length_map] at h3
            omega
          obtain ⟨sb, hsb0⟩ : ∃ s, s = strOfNums D2.safe[ia] := ⟨_, rfl⟩
          have hsb := Aside0.mk (show wa.cell? ⟨g7, ia * 2, none⟩ = some (.string sb) from hcell 0 _ (by rw [NS_get ia hal.out.1 has hab, hsb0]; rfl))
          obtain ⟨n7, hn7⟩ : ∃ m, m = (NS D2.safe D2.bad).length := ⟨_, rfl⟩
          rw [← hn7] at hv7
          have hai := Aside0.mk (show (ia : Int) < (n7 : Int) by rw [hn7]; exact Int.ofNat_lt.2 hal.out.1)
          obtain ⟨l7, hl7⟩ : ∃ l, l = NS D2.safe D2.bad := ⟨_, rfl⟩
          have HL7 := Aside0.mk hl7
          have hV7 := Aside0.mk (show SR w.heap.size (fun k => ¬ S k) wa (.slice (some ⟨g7, 0, none⟩) n7 c7) l7 by rw [hl7, ← hv7]; exact HV.out)
          replace hal : Aside0 (ia < l7.length ∧ l7.length ≤ 65536) := ⟨by rw [hl7]; exact hal.out⟩
          have hset := Aside0.mk (show (NS D2.safe D2.bad).set ia (sb, true) = NS D2.safe (D2.bad.set ia true) by
            rw [hsb0, ← NS_set, List.set_getElem_self])
          subst hv7
          clear ht k2 hn7 hl7 hsb0 hcell HV
          rcases alt with ⟨ad, rfl, hkl3, tk, hcell⟩ | tk
          all_goals
            go_upto_region 81 with fail
            have HB := Aside0.mk (Below.refl wa.heap.size wa)
            refine start_ (n := 12) (S := fun w' => True) (ds := []) #[false, false, false, false, false, false, false, false, false, false, false, false] (by kernel_rfl) rfl rfl trivial (fun hHeld => ?_)
            refine with_tabW drrun81.tab81 drrun81.bits81 (fun HT_ HW_ => ?_)
            have n0_ := Aside0.mk (below_drew HB.out)
            clear HB
            generalize World.drew _ = wd at n0_ hHeld ⊢
            have HB := n0_
            clear hHeld n0_
            refine inv_at [0, 1, 2, 3, 4, 5, 6, 7, 8, 9, 10, 11] (fun a0_ b a w' => ∃ (V10 : Value) (m11_ : Value), a = putSel a0_ b [(0, 301, .slice (some ⟨g7, 0, none⟩) n7 c7), (1, 302, .pointer (some ⟨K4, 1, none⟩)), (2, 303, .int .i64 (ia : Int)), (3, 304, .slice (some ⟨g7, 0, none⟩) n7 c7), (4, 305, .pointer (some ⟨K4, 1, none⟩)), (5, 306, .int .i64 (ia : Int)), (6, 307, .pointer (some ⟨g7, ia * 2, none⟩)), (7, 308, .pointer (some ⟨g7, ia * 2, none⟩)), (8, 309, .string sb), (9, 310, .agg #[.string sb, .bool true]), (10, 311, V10), (11, 7, m11_)] ∧ (Below wa.heap.size wa w') ∧ (b 10 = true → SR wa.heap.size (fun _ => True) w' V10 (l7.set ia (sb, true))) ∧ (b 11 = true → (m11_ : Value) = V10)) HT_.out HW_.out (by kernel_rfl) (by kernel_rfl) ?_ ?_ ?_
            · exact ⟨(.slice none 0 0), .bool false, by simp only [putSel, Bool.false_eq_true, if_false], HB.out, fun h_ => absurd h_ (by decide), fun h_ => absurd h_ (by decide)⟩
            · skip
              clear HB
              refine steps_cons ?_ ?_
              · rintro b a w' ⟨V10, m11_, ha, Q_HB, Q_F10, Q_X11_⟩ hb_ hon hoff
                refine ⟨_, rfl, fun K hK => ?_⟩
                have e7 : a.tmps[7]? = some (.slice (some ⟨g7, 0, none⟩) n7 c7) := by rw [ha]; exact (putSel_not (hoff 11 (by kernel_rfl)) rfl).trans rfl
                replace ha := Aside0.mk ha
                have HB := Aside0.mk Q_HB
                refine value_ (w1 := w') (v := .slice (some ⟨g7, 0, none⟩) n7 c7) (by rfl) rfl ?_ ?_
                · go_simp
                  (try simp only [i64_w])
                  try rfl
                refine hK.out _ _ ⟨V10, m11_, (by rw [ha.out]; exact putSel_upk 0 hb_ rfl rfl rfl), Q_HB, fun h0_ => absurd ((hoff 10 (by kernel_rfl)).symm.trans h0_) (by decide), fun h0_ => absurd ((hoff 11 (by kernel_rfl)).symm.trans h0_) (by decide)⟩
              refine steps_cons ?_ ?_
              · rintro b a w' ⟨V10, m11_, ha, Q_HB, Q_F10, Q_X11_⟩ hb_ hon hoff
                refine ⟨_, rfl, fun K hK => ?_⟩
                have e24 : a.tmps[24]? = some (.pointer (some ⟨K4, 0, none⟩)) := by rw [ha]; exact (putSel_off rfl).trans rfl
                replace ha := Aside0.mk ha
                have HB := Aside0.mk Q_HB
                refine value_ (w1 := w') (v := .pointer (some ⟨K4, 1, none⟩)) (by rfl) rfl ?_ ?_
                · go_simp
                  (try simp only [i64_w])
                  try rfl
                refine hK.out _ _ ⟨V10, m11_, (by rw [ha.out]; exact putSel_upk 1 hb_ rfl rfl rfl), Q_HB, fun h0_ => absurd ((hoff 10 (by kernel_rfl)).symm.trans h0_) (by decide), fun h0_ => absurd ((hoff 11 (by kernel_rfl)).symm.trans h0_) (by decide)⟩
              refine steps_cons ?_ ?_
              · rintro b a w' ⟨V10, m11_, ha, Q_HB, Q_F10, Q_X11_⟩ hb_ hon hoff
                refine ⟨_, rfl, fun K hK => ?_⟩
                have e302 : a.tmps[302]? = some (.pointer (some ⟨K4, 1, none⟩)) := by rw [ha]; exact putSel_on (e := (1, 302, .pointer (some ⟨K4, 1, none⟩))) 1 rfl rfl (hon 1 (by kernel_rfl)) rfl
                replace ha := Aside0.mk ha
                have HB := Aside0.mk Q_HB
                have hck_ := (HB.out.block K4 (blk_lt HK4.out)).trans HK4.out
                have hc_ : w'.cell? ⟨K4, 1, none⟩ = some (.int .i64 (ia : Int)) := (blk_cell hck_ 1).trans rfl
                refine value_ (w1 := w') (v := .int .i64 (ia : Int)) (by rfl) rfl ?_ ?_
                · go_simp
                  (try simp only [i64_w])
                  try rfl
                refine hK.out _ _ ⟨V10, m11_, (by rw [ha.out]; exact putSel_upk 2 hb_ rfl rfl rfl), Q_HB, fun h0_ => absurd ((hoff 10 (by kernel_rfl)).symm.trans h0_) (by decide), fun h0_ => absurd ((hoff 11 (by kernel_rfl)).symm.trans h0_) (by decide)⟩
              refine steps_cons ?_ ?_
              · rintro b a w' ⟨V10, m11_, ha, Q_HB, Q_F10, Q_X11_⟩ hb_ hon hoff
                refine ⟨_, rfl, fun K hK => ?_⟩
                have e7 : a.tmps[7]? = some (.slice (some ⟨g7, 0, none⟩) n7 c7) := by rw [ha]; exact (putSel_not (hoff 11 (by kernel_rfl)) rfl).trans rfl
                replace ha := Aside0.mk ha
                have HB := Aside0.mk Q_HB
                refine value_ (w1 := w') (v := .slice (some ⟨g7, 0, none⟩) n7 c7) (by rfl) rfl ?_ ?_
                · go_simp
                  (try simp only [i64_w])
                  try rfl
                refine hK.out _ _ ⟨V10, m11_, (by rw [ha.out]; exact putSel_upk 3 hb_ rfl rfl rfl), Q_HB, fun h0_ => absurd ((hoff 10 (by kernel_rfl)).symm.trans h0_) (by decide), fun h0_ => absurd ((hoff 11 (by kernel_rfl)).symm.trans h0_) (by decide)⟩
              refine steps_cons ?_ ?_
              · rintro b a w' ⟨V10, m11_, ha, Q_HB, Q_F10, Q_X11_⟩ hb_ hon hoff
                refine ⟨_, rfl, fun K hK => ?_⟩
                have e24 : a.tmps[24]? = some (.pointer (some ⟨K4, 0, none⟩)) := by rw [ha]; exact (putSel_off rfl).trans rfl
                replace ha := Aside0.mk ha
                have HB := Aside0.mk Q_HB
                refine value_ (w1 := w') (v := .pointer (some ⟨K4, 1, none⟩)) (by rfl) rfl ?_ ?_
                · go_simp
                  (try simp only [i64_w])
                  try rfl
                refine hK.out _ _ ⟨V10, m11_, (by rw [ha.out]; exact putSel_upk 4 hb_ rfl rfl rfl), Q_HB, fun h0_ => absurd ((hoff 10 (by kernel_rfl)).symm.trans h0_) (by decide), fun h0_ => absurd ((hoff 11 (by kernel_rfl)).symm.trans h0_) (by decide)⟩
              refine steps_cons ?_ ?_
              · rintro b a w' ⟨V10, m11_, ha, Q_HB, Q_F10, Q_X11_⟩ hb_ hon hoff
                refine ⟨_, rfl, fun K hK => ?_⟩
                have e305 : a.tmps[305]? = some (.pointer (some ⟨K4, 1, none⟩)) := by rw [ha]; exact putSel_on (e := (4, 305, .pointer (some ⟨K4, 1, none⟩))) 4 rfl rfl (hon 4 (by kernel_rfl)) rfl
                replace ha := Aside0.mk ha
                have HB := Aside0.mk Q_HB
                have hck_ := (HB.out.block K4 (blk_lt HK4.out)).trans HK4.out
                have hc_ : w'.cell? ⟨K4, 1, none⟩ = some (.int .i64 (ia : Int)) := (blk_cell hck_ 1).trans rfl
                refine value_ (w1 := w') (v := .int .i64 (ia : Int)) (by rfl) rfl ?_ ?_
                · go_simp
                  (try simp only [i64_w])
                  try rfl
                refine hK.out _ _ ⟨V10, m11_, (by rw [ha.out]; exact putSel_upk 5 hb_ rfl rfl rfl), Q_HB, fun h0_ => absurd ((hoff 10 (by kernel_rfl)).symm.trans h0_) (by decide), fun h0_ => absurd ((hoff 11 (by kernel_rfl)).symm.trans h0_) (by decide)⟩
              refine steps_cons ?_ ?_
              · rintro b a w' ⟨V10, m11_, ha, Q_HB, Q_F10, Q_X11_⟩ hb_ hon hoff
                refine ⟨_, rfl, fun K hK => ?_⟩
                have e304 : a.tmps[304]? = some (.slice (some ⟨g7, 0, none⟩) n7 c7) := by rw [ha]; exact putSel_on (e := (3, 304, .slice (some ⟨g7, 0, none⟩) n7 c7)) 3 rfl rfl (hon 3 (by kernel_rfl)) rfl
                have e306 : a.tmps[306]? = some (.int .i64 (ia : Int)) := by rw [ha]; exact putSel_on (e := (5, 306, .int .i64 (ia : Int))) 5 rfl rfl (hon 5 (by kernel_rfl)) rfl
                replace ha := Aside0.mk ha
                have HB := Aside0.mk Q_HB
                have han_ := hai.out
                refine value_ (w1 := w') (v := .pointer (some ⟨g7, ia * 2, none⟩)) (by rfl) rfl ?_ ?_
                · go_simp
                  (try simp only [i64_w])
                  try rfl
                refine hK.out _ _ ⟨V10, m11_, (by rw [ha.out]; exact putSel_upk 6 hb_ rfl rfl rfl), Q_HB, fun h0_ => absurd ((hoff 10 (by kernel_rfl)).symm.trans h0_) (by decide), fun h0_ => absurd ((hoff 11 (by kernel_rfl)).symm.trans h0_) (by decide)⟩
              refine steps_cons ?_ ?_
              · rintro b a w' ⟨V10, m11_, ha, Q_HB, Q_F10, Q_X11_⟩ hb_ hon hoff
                refine ⟨_, rfl, fun K hK => ?_⟩
                have e307 : a.tmps[307]? = some (.pointer (some ⟨g7, ia * 2, none⟩)) := by rw [ha]; exact putSel_on (e := (6, 307, .pointer (some ⟨g7, ia * 2, none⟩))) 6 rfl rfl (hon 6 (by kernel_rfl)) rfl
                replace ha := Aside0.mk ha
                have HB := Aside0.mk Q_HB
                refine value_ (w1 := w') (v := .pointer (some ⟨g7, ia * 2, none⟩)) (by rfl) rfl ?_ ?_
                · go_simp
                  (try simp only [i64_w])
                  try rfl
                refine hK.out _ _ ⟨V10, m11_, (by rw [ha.out]; exact putSel_upk 7 hb_ rfl rfl rfl), Q_HB, fun h0_ => absurd ((hoff 10 (by kernel_rfl)).symm.trans h0_) (by decide), fun h0_ => absurd ((hoff 11 (by kernel_rfl)).symm.trans h0_) (by decide)⟩
              refine steps_cons ?_ ?_
              · rintro b a w' ⟨V10, m11_, ha, Q_HB, Q_F10, Q_X11_⟩ hb_ hon hoff
                refine ⟨_, rfl, fun K hK => ?_⟩
                have e308 : a.tmps[308]? = some (.pointer (some ⟨g7, ia * 2, none⟩)) := by rw [ha]; exact putSel_on (e := (7, 308, .pointer (some ⟨g7, ia * 2, none⟩))) 7 rfl rfl (hon 7 (by kernel_rfl)) rfl
                replace ha := Aside0.mk ha
                have HB := Aside0.mk Q_HB
                have hc_ : w'.cell? ⟨g7, ia * 2, none⟩ = some (.string sb) := (HB.out.cell (World.block_lt_of_cell? _ _ hsb.out)).trans hsb.out
                refine value_ (w1 := w') (v := .string sb) (by rfl) rfl ?_ ?_
                · go_simp
                  (try simp only [i64_w])
                  try rfl
                refine hK.out _ _ ⟨V10, m11_, (by rw [ha.out]; exact putSel_upk 8 hb_ rfl rfl rfl), Q_HB, fun h0_ => absurd ((hoff 10 (by kernel_rfl)).symm.trans h0_) (by decide), fun h0_ => absurd ((hoff 11 (by kernel_rfl)).symm.trans h0_) (by decide)⟩
              refine steps_cons ?_ ?_
              · rintro b a w' ⟨V10, m11_, ha, Q_HB, Q_F10, Q_X11_⟩ hb_ hon hoff
                refine ⟨_, rfl, fun K hK => ?_⟩
                have e309 : a.tmps[309]? = some (.string sb) := by rw [ha]; exact putSel_on (e := (8, 309, .string sb)) 8 rfl rfl (hon 8 (by kernel_rfl)) rfl
                replace ha := Aside0.mk ha
                have HB := Aside0.mk Q_HB
                refine value_ (w1 := w') (v := .agg #[.string sb, .bool true]) (by rfl) rfl ?_ ?_
                · go_simp
                  (try simp only [i64_w])
                  try rfl
                refine hK.out _ _ ⟨V10, m11_, (by rw [ha.out]; exact putSel_upk 9 hb_ rfl rfl rfl), Q_HB, fun h0_ => absurd ((hoff 10 (by kernel_rfl)).symm.trans h0_) (by decide), fun h0_ => absurd ((hoff 11 (by kernel_rfl)).symm.trans h0_) (by decide)⟩
              refine steps_cons ?_ ?_
              · rintro b a w' ⟨V10, m11_, ha, Q_HB, Q_F10, Q_X11_⟩ hb_ hon hoff
                refine ⟨_, rfl, fun K hK => ?_⟩
                have e301 : a.tmps[301]? = some (.slice (some ⟨g7, 0, none⟩) n7 c7) := by rw [ha]; exact putSel_on (e := (0, 301, .slice (some ⟨g7, 0, none⟩) n7 c7)) 0 rfl rfl (hon 0 (by kernel_rfl)) rfl
                have e303 : a.tmps[303]? = some (.int .i64 (ia : Int)) := by rw [ha]; exact putSel_on (e := (2, 303, .int .i64 (ia : Int))) 2 rfl rfl (hon 2 (by kernel_rfl)) rfl
                have e310 : a.tmps[310]? = some (.agg #[.string sb, .bool true]) := by rw [ha]; exact putSel_on (e := (9, 310, .agg #[.string sb, .bool true])) 9 rfl rfl (hon 9 (by kernel_rfl)) rfl
                replace ha := Aside0.mk ha
                have HB := Aside0.mk Q_HB
                refine goes_ Try.func27 (by kernel_rfl) rfl #[.slice (some ⟨g7, 0, none⟩) n7 c7, .int .i64 (ia : Int), .agg #[.string sb, .bool true]] (by rfl) rfl rfl (by first | (simp only [List.map_toArray, List.map_cons, List.map_nil, Act.eval, Array.getD_eq_getD_getElem?, Option.getD_some, e301, e303, e310]; done) | (simp only [List.map_toArray, List.map_cons, List.map_nil, Act.eval, Array.getD_eq_getD_getElem?, Option.getD_some, e301, e303, e310]; rfl)) ?_
                refine (put_ok (hV7.out.below HB.out) ia hal.out.1 hal.out.2 (sb, true)).mono ?_
                rintro e_ wn_ ⟨v_, rfl, hr_, hbw_⟩
                refine ⟨_, rfl, ?_⟩
                refine hK.out _ _ ⟨v_, m11_, (by rw [ha.out]; exact putSel_upk 10 hb_ rfl rfl rfl), (below_step HB.out hbw_), fun _ => (hr_.lower HB.out.size), fun h0_ => absurd ((hoff 11 (by kernel_rfl)).symm.trans h0_) (by decide)⟩
              refine steps_cons ?_ ?_
              · rintro b a w' ⟨V10, m11_, ha, Q_HB, Q_F10, Q_X11_⟩ hb_ hon hoff
                refine ⟨_, rfl, fun K hK => ?_⟩
                have e311 : a.tmps[311]? = some (V10) := by rw [ha]; exact putSel_on (e := (10, 311, V10)) 10 rfl rfl (hon 10 (by kernel_rfl)) rfl
                replace ha := Aside0.mk ha
                have HB := Aside0.mk Q_HB
                have F10 := Aside0.mk (Q_F10 (hon 10 (by kernel_rfl)))
                refine value_ (w1 := w') (v := V10) (by rfl) rfl ?_ ?_
                · go_simp
                  (try simp only [i64_w])
                  try rfl
                refine hK.out _ _ ⟨V10, (V10), (by rw [ha.out]; exact putSel_upk 11 hb_ rfl rfl rfl), Q_HB, Q_F10, fun _ => rfl⟩
              exact steps_nil
            rintro b a w' hall ⟨V10, m11_, ha, Q_HB, Q_F10, Q_X11_⟩
            clear HB
            have hb0_ := hall 0 (by kernel_rfl)
            have hb1_ := hall 1 (by kernel_rfl)
            have hb2_ := hall 2 (by kernel_rfl)
            have hb3_ := hall 3 (by kernel_rfl)
            have hb4_ := hall 4 (by kernel_rfl)
            have hb5_ := hall 5 (by kernel_rfl)
            have hb6_ := hall 6 (by kernel_rfl)
            have hb7_ := hall 7 (by kernel_rfl)
            have hb8_ := hall 8 (by kernel_rfl)
            have hb9_ := hall 9 (by kernel_rfl)
            have hb10_ := hall 10 (by kernel_rfl)
            have hb11_ := hall 11 (by kernel_rfl)
            subst ha
            obtain rfl := Q_X11_ hb11_
            simp only [putSel, hb0_, hb1_, hb2_, hb3_, hb4_, hb5_, hb6_, hb7_, hb8_, hb9_, hb10_, hb11_, if_true, Act.put, List.setIfInBounds_toArray, List.set_cons_zero, List.set_cons_succ]
            have HB := Aside0.mk Q_HB
            clear Q_HB
            have F10 := Aside0.mk (Q_F10 hb10_)
            clear Q_F10
            clear hall hb0_ hb1_ hb2_ hb3_ hb4_ hb5_ hb6_ hb7_ hb8_ hb9_ hb10_ hb11_
            have hfin := Aside0.mk (show SR w.heap.size (fun k => ¬ S k) w' m11_ (NS (DA.onK o.keep o.tear M (j + 1)).safe (DA.onK o.keep o.tear M (j + 1)).bad) from by
              rw [HON.out]; unfold DA.onP; rw [← HKB.out, if_neg (by decide), if_pos HT.out]
              show SR _ _ w' m11_ (NS D2.safe (D2.bad.set y.1.toNat true))
              rw [HA.out.1, Int.toNat_natCast, ← hset.out, ← HL7.out]
              exact F10.out.new HSa.out hBw.out.size)
            have HBF := Aside0.mk (below_step HBA.out HB.out)
            clear HB F10 hsb hV7 hset
            go_wp2
            go_roundw
            case rel => exact ⟨j + 1, HJ.out, by go_num, ⟨HBF.out, hfin.out⟩⟩
            case measure =>
              rw [show (j : Int) + 1 = ((j + 1 : Nat) : Int) from rfl]
              exact (show nw - (j + 1) < nw - j from Nat.sub_lt_sub_left HJ.out (Nat.lt_succ_self j))
        · have tb : ((j : Int) == o.tear) = false := by simpa using ht
          have hfin := Aside0.mk (show SR w.heap.size (fun k => ¬ S k) wa u7 (NS (DA.onK o.keep o.tear M (j + 1)).safe (DA.onK o.keep o.tear M (j + 1)).bad) from by
            rw [HON.out]; unfold DA.onP; rw [← HKB.out, if_neg (by decide), if_neg ht]
            exact HV.out)
          clear ht k1 k2
          rcases alt with ⟨ad, rfl, hkl3, tk, hcell⟩ | tk
          all_goals
            go_wp2
            go_roundw
            case rel => exact ⟨j + 1, HJ.out, by go_num, ⟨HBA.out, hfin.out⟩⟩
            case measure =>
              rw [show (j : Int) + 1 = ((j + 1 : Nat) : Int) from rfl]
              exact (show nw - (j + 1) < nw - j from Nat.sub_lt_sub_left HJ.out (Nat.lt_succ_self j))
    · have hjn : j = nw := Nat.le_antisymm hj (Nat.le_of_not_lt hlt)
      subst hjn
      have hwn : M.wait.length = j := by rw [← HW8.out.2.len, ← HNW.out]
      have HL2 := Aside0.mk ((HL1.out.below hR.out.1).on o.keep o.tear (by rw [hwn]; exact hR.out.2))
      have HS2 := Aside0.mk (HS1.out.below hR.out.1)
      have HON := Aside0.mk (show (M.on o.keep o.tear).now.length = M.now.length from (onK_len o.keep o.tear M M.wait.length).1.trans HL1.out.t2)
      clear hlt hj hR hwn
      go_wp2
      exact HQ.out _ _ _ _ _ _ _ _ _ _ _ _ ⟨rfl, rfl, rfl, rfl, rfl, rfl, rfl, rfl, rfl, rfl, rfl, rfl, rfl, rfl⟩ HS2.out HL2.out ⟨Nat.zero_le _, HW.out.2.1, by decide, HON.out⟩
end
end DiskRuns
end Go.Proofs.Ytihmfccpgahmaaa.Dk
