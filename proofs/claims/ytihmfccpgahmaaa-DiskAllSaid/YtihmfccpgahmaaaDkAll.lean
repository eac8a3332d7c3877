/- The law DiskAll, walked: true, for whatever operations. -/
import Derived.Test.YtihmfccpgahmaaaDkAllP
import Derived.Deep.QuietTactic
import Derived.BigQuiet
namespace Go.Proofs.Ytihmfccpgahmaaa.Dk
open Go Go.RowKit Go.Proofs.YtihmfccpgahmaaaW.PrintWords Go.Proofs.YtihmfccpgahmaaaW.PrintMore Go.Proofs.YtihmfccpgahmaaaW.PrintLast Go.Proofs.Ytihmfccpgahmaaa.Str
set_option linter.unusedVariables false
set_option linter.unusedSimpArgs false
namespace DiskAll
set_option maxRecDepth 100000 in
set_option maxHeartbeats 8000000 in
theorem law_ok (A1 : Option Addr) (c1 : Nat) (ops : List OpV) (w : World) (hco : ops.length ≤ c1) (hCo : Kd.C kOp w A1 ops.length ops) (hwo : ∀ x ∈ ops, OpOk x) :
    Calls Try.prog 6 #[.slice A1 ops.length c1] w fun e w' => e = .returned (.bool true) ∧ Below w.heap.size w w' := by
  have hO := hCo.2.1
  have HCO := Aside0.mk hCo
  clear hCo hwo hco
  go_enter Try.func6, Try.ntmps6
  go_wp2_with fail
  refine (head_ok _).mono ?_
  rintro e w0 ⟨rfl, hb⟩
  have HB := Aside0.mk hb
  clear hb
  go_wp2_with fail
  refine (st_new (w0 := w) _ _ HB.out).mono ?_
  rintro e w1 ⟨g1, S1, rfl, hi, hb1, hs1⟩
  have HA := Aside0.mk hi
  clear hi HB hb1 hs1
  go_wp2_with fail
  refine (st_new (w0 := w) _ _ HA.out.B).mono ?_
  rintro e w2 ⟨g2, S2, rfl, hi, hb2, hs2⟩
  have HAB := Aside0.mk (And.intro hi (And.intro hb2 hs2))
  clear hi hb2 hs2
  go_wp2_with fail
  have HT := Aside0.mk (two_begin HA.out HAB.out.1 HAB.out.2.1 HAB.out.2.2)
  clear HA HAB
  generalize (((w2.alloc (.cells #[.pointer (some ⟨g2, 0, none⟩)] 24)).alloc (.cells #[] 4)).alloc (.cells #[] 9)) = W3 at HT ⊢
  generalize w2.heap.size = kb at HT ⊢
  refine (all_ok HT.out.b HT.out.box).mono ?_
  rintro e w3 ⟨v6, rfl, hr, hb⟩
  have HT1 := Aside0.mk (HT.out.fresh (sr' := allS (List.replicate 8 [])) (by rw [← InvB.all new_B.1 new_B.2]; exact hr) hb)
  clear HT hr hb
  go_wp2
  go_loopw [5, 6, 8] (fun v5 v6 i wr => ∃ k : Nat, k ≤ 30 ∧ k ≤ ops.length ∧ i = .int .i64 k ∧ Aside0 (∃ A B n sf S1 S2, Two w wr g1 g2 kb A B v5 v6 n (allS sf) S1 S2 ∧ InvA n A ∧ n ≤ k ∧ InvB sf k B)) (fun _ _ i _ => 30 - (intOf i).toNat)
  case atStart => exact ⟨0, Nat.zero_le _, Nat.zero_le _, rfl, ⟨_, _, _, _, S1, S2, HT1.out, new_A, Nat.le_refl _, new_B.1⟩⟩
  case round =>
    obtain ⟨k, hk, hko, rfl, hR⟩ := hrel
    clear HT1
    obtain ⟨A, B, n, sf, T1, T2, ht, ha, hn, hb⟩ := hR.out
    have HT := Aside0.mk ht
    have IA := Aside0.mk ha
    have IB := Aside0.mk hb
    have hn3 : n ≤ 30 := by omega
    clear ht hR ha hb
    by_cases hlt : k < ops.length ∧ k < 30
    · obtain ⟨hl1, hl2⟩ := hlt
      have b20 : decide ((k : Int) < 30) = true := decide_eq_true (by omega)
      obtain ⟨ad, bA, bc, kA, kc, hA1, d0, d1, d2, d3, d4, f1, f2, f3, f4⟩ := op_at HCO.out k hl1
      subst hA1
      obtain ⟨o, ho⟩ : ∃ o, o = ops[k] := ⟨_, rfl⟩
      rw [← ho] at d0 d1 d2 d3 d4 f1 f2 f3 f4
      have hbc := Aside0.mk f1
      have hcb := Aside0.mk f2
      have x0 := up_cell HT.out.a.B d0
      have x1 := up_cell HT.out.a.B d1
      have x2 := up_cell HT.out.a.B d2
      have x3 := up_cell HT.out.a.B d3
      have x4 := up_cell HT.out.a.B d4
      clear ho d0 d1 d2 d3 d4 f1 f2 f3 f4
      go_upto_region 13 with fail
      obtain ⟨KB, hKB⟩ : ∃ n : Nat, n = wr.heap.size := ⟨_, rfl⟩
      have hT1 := Aside0.mk (show ∀ k, T1 k → k < KB from fun k hk => by rw [hKB]; exact (HT.out.a.lt k hk).2)
      have hT2 := Aside0.mk (show ∀ k, T2 k → k < KB from fun k hk => by rw [hKB]; exact (HT.out.b.lt k hk).2)
      have hVK := Aside0.mk (show ∀ k, u5.ownBlock = some k → k < KB from fun k hk => by rw [hKB]; exact Kd.R_lt HT.out.kp k hk)
      have BX := Aside0.mk (blk_new wr (.cells #[.int .i64 o.k, .int .i64 o.at_, .slice bA o.b.length bc, .slice kA o.keep.length kc, .int .i64 o.tear] 36 (0, 0)))
      have HT2 := Aside0.mk (HT.out.below (below_alloc (Below.refl _ _) (.cells #[.int .i64 o.k, .int .i64 o.at_, .slice bA o.b.length bc, .slice kA o.keep.length kc, .int .i64 o.tear] 36 (0, 0))))
      rw [← hKB] at BX ⊢
      generalize wr.alloc _ = wa at BX HT2 ⊢
      clear HT hKB x0 x1 x2 x3 x4
      have HT := HT2
      clear HT2
      have y0 : wa.cell? ⟨KB, 0, none⟩ = some (.int .i64 o.k) := (blk_cell BX.out 0).trans rfl
      have y1 : wa.cell? ⟨KB, 1, none⟩ = some (.int .i64 o.at_) := (blk_cell BX.out 1).trans rfl
      have y2 : wa.cell? ⟨KB, 2, none⟩ = some (.slice bA o.b.length bc) := (blk_cell BX.out 2).trans rfl
      by_cases h5 : 512 < o.b.length
      · have b5 : decide (512 < o.b.length) = true := decide_eq_true h5
        have b6 : decide ((512 : Int) < (o.b.length : Int)) = true := decide_eq_true (by omega)
        clear h5
        go_wp2
        go_roundw
        case rel => exact ⟨k + 1, hl2, hl1, by go_num, ⟨_, _, _, _, _, _, HT.out, IA.out, by omega, IB.out.up (Nat.le_succ k)⟩⟩
        case measure => simp [intOf]; omega
      have h5' := Aside0.mk (show o.b.length ≤ 512 by omega)
      have b5 : decide (512 < o.b.length) = false := decide_eq_false h5
      have b6 : decide ((512 : Int) < (o.b.length : Int)) = false := decide_eq_false (by omega)
      clear h5
      by_cases h2 : o.k = 2
      · have b2 : (o.k == 2) = true := by simp [h2]
        clear h2
        go_wp2_with fail
        refine (st_sync HT.out.a (by rw [IA.out.wl]; omega)).mono ?_
        rintro e w5 ⟨rfl, hi, hk2⟩
        have HT5 := Aside0.mk (HT.out.callA hk2 hi (fun k h => .inl h))
        clear HT hi hk2 y0 y1 y2 BX
        have xb : w5.cell? ⟨kb, 0, none⟩ = some (.pointer (some ⟨g2, 0, none⟩)) := (blk_cell HT5.out.box 0).trans rfl
        go_wp2_with fail
        refine (st_sync HT5.out.b (by have := IB.out.wl; omega)).mono ?_
        rintro e w6 ⟨rfl, hi, hk2⟩
        have HT6 := Aside0.mk (HT5.out.callB hk2 hi (fun k h => .inl h))
        obtain ⟨sf', hsf⟩ := IB.out.sy
        have IB6 := Aside0.mk hsf
        clear HT5 hi hk2 xb hsf
        have xb : w6.cell? ⟨kb, 0, none⟩ = some (.pointer (some ⟨g2, 0, none⟩)) := (blk_cell HT6.out.box 0).trans rfl
        go_wp2_with fail
        refine (st_on HT6.out.b none 0 [] (fun W' hk => Kd.C_nil _ _) (by decide) (-1) (by have := IB6.out.wl; omega)).mono ?_
        rintro e w7 ⟨rfl, hi, hk2⟩
        have HT7 := Aside0.mk (HT6.out.callB hk2 hi (fun k h => .inl h))
        obtain ⟨hsf, hsn⟩ := IB6.out.on
        have IB7 := Aside0.mk hsf
        have hall := Aside0.mk (hsf.all hsn)
        clear HT6 hi hk2 xb hsf hsn
        go_wp2_with fail
        refine (all_ok HT7.out.b HT7.out.box).mono ?_
        rintro e w8 ⟨v8, rfl, hr, hb⟩
        rw [hall.out] at hr
        have HT8 := Aside0.mk (HT7.out.anew hr hb)
        clear HT7 hr hb hall
        go_wp2
        go_roundw
        case rel => exact ⟨k + 1, hl2, hl1, by go_num, ⟨_, _, _, _, _, _, HT8.out, IA.out.sy, Nat.zero_le _, IB7.out.up (Nat.zero_le _)⟩⟩
        case measure => simp [intOf]; omega
      have b2 : (o.k == 2) = false := by simpa using h2
      clear h2
      go_wp2_with fail
      refine (st_write HT.out.a o.at_ bA bc o.b (fun W' hk => Kd.C_below hcb.out (HT.out.a.I.after hk HT.out.a.B HT.out.a.B.size)) hbc.out (by rw [IA.out.wl]; omega)).mono ?_
      rintro e w5 ⟨he, T1', hi, hs, hk2⟩
      have BX5 := Aside0.mk (lit_kept BX.out hk2 (fun h => by have := hT1.out KB h; omega))
      have HT5 := Aside0.mk (HT.out.callA hk2 hi hs)
      have hKlt := Aside0.mk (blk_lt BX5.out)
      clear HT hi hs hk2 y0 y1 y2 BX
      by_cases hE : A.wrE o.at_ o.b.length = 0
      · rw [hE] at he
        subst he
        have IA5 := Aside0.mk (IA.out.wr o.at_ o.b h5'.out hE)
        clear IA hE
        have IA := IA5
        have hn1 : n + 1 ≤ k + 1 := by omega
        go_upto_region 21 with (at_builtin; refine Kd.R_append Kd.bool (w0 := w) w.heap.size rfl (.tmp 63) (.tmp 64) 30 4 (.bool false) 1 rfl Try.underlying30 infoT rfl (by decide) (by decide) _ (List.replicate n true) true [.bool true] (fun k => ¬ T1' k ∧ ¬ T2 k ∧ k ≠ kb) (fun _ => False) rfl rfl rfl (fun _ h => h.elim) (fun k hk => ⟨fun h => by have := (HT5.out.a.lt k h).2; omega, fun h => by have := (HT5.out.b.lt k h).2; omega, fun h => by have := blk_lt HT5.out.box; omega⟩) HT5.out.kp HT5.out.a.B HT5.out.a.B.size (by simp; omega) ?_; intro v9 wq hR hB hg hat; have HT := Aside0.mk (HT5.out.append hR hB hg hat); have BX := Aside0.mk ((hg.block KB hKlt.out (fun he => by have := hVK.out KB he.symm; omega)).trans BX5.out); clear hR hB hg hat HT5 BX5)
        have xb : wq.cell? ⟨kb, 0, none⟩ = some (.pointer (some ⟨g2, 0, none⟩)) := (blk_cell HT.out.box 0).trans rfl
        have y1 : wq.cell? ⟨KB, 1, none⟩ = some (.int .i64 o.at_) := (blk_cell BX.out 1).trans rfl
        have y2 : wq.cell? ⟨KB, 2, none⟩ = some (.slice bA o.b.length bc) := (blk_cell BX.out 2).trans rfl
        go_wp2_with fail
        refine (st_write HT.out.b o.at_ bA bc o.b (fun W' hk => Kd.C_below hcb.out (HT.out.b.I.after hk HT.out.b.B HT.out.b.B.size)) hbc.out (by have := IB.out.wl; omega)).mono ?_
        rintro e wz ⟨he, T2', hi, hs, hk2⟩
        have HTz := Aside0.mk (HT.out.callB hk2 hi hs)
        have BXz := Aside0.mk (lit_kept BX.out hk2 (fun h => by have := hT2.out KB h; omega))
        have IBz := Aside0.mk (IB.out.wr o.at_ o.b)
        clear xb y1 y2 HT BX hi hs hk2
        have y0 : wz.cell? ⟨KB, 0, none⟩ = some (.int .i64 o.k) := (blk_cell BXz.out 0).trans rfl
        by_cases hE2 : B.wrE o.at_ o.b.length = 0
        · rw [hE2] at he
          subst he
          by_cases h1 : o.k = 1
          · have b1 : (o.k == 1) = true := by simp [h1]
            have xb : wz.cell? ⟨kb, 0, none⟩ = some (.pointer (some ⟨g2, 0, none⟩)) := (blk_cell HTz.out.box 0).trans rfl
            clear hE2 h1
            go_wp2_with fail
            refine (st_on HTz.out.b none 0 [] (fun W' hk => Kd.C_nil _ _) (by decide) (-1) (by have := IBz.out.wl; omega)).mono ?_
            rintro e wy ⟨rfl, hi, hk2⟩
            have HTy := Aside0.mk (HTz.out.callB hk2 hi (fun k h => .inl h))
            have IBy := Aside0.mk (IBz.out.on.1.up (Nat.zero_le (k + 1)))
            clear HTz hi hk2 y0 xb
            go_wp2
            go_roundw
            case rel => exact ⟨k + 1, hl2, hl1, by go_num, ⟨_, _, _, _, _, _, HTy.out, IA.out, hn1, IBy.out⟩⟩
            case measure => simp [intOf]; omega
          · have b1 : (o.k == 1) = false := by simpa using h1
            clear hE2 h1
            go_wp2
            go_roundw
            case rel => exact ⟨k + 1, hl2, hl1, by go_num, ⟨_, _, _, _, _, _, HTz.out, IA.out, hn1, IBz.out⟩⟩
            case measure => simp [intOf]; omega
        · have bE : (B.wrE o.at_ o.b.length == 0) = false := by simpa using hE2
          subst he
          clear hE2
          go_wp2
          go_roundw
          case rel => exact ⟨k + 1, hl2, hl1, by go_num, ⟨_, _, _, _, _, _, HTz.out, IA.out, hn1, IBz.out⟩⟩
          case measure => simp [intOf]; omega
      · have bE : (A.wrE o.at_ o.b.length == 0) = false := by simpa using hE
        subst he
        have IA5 := Aside0.mk (show InvA n (A.wr o.at_ o.b) by rw [wr_no IA.out.fu o.at_ o.b h5'.out hE]; exact IA.out)
        clear IA hE
        have IA := IA5
        have HT := HT5
        have BX := BX5
        clear HT5 BX5
        have hn1 : n ≤ k + 1 := by omega
        go_upto_region 21 with fail
        obtain ⟨wq, hwq⟩ : ∃ x, x = w5 := ⟨_, rfl⟩
        subst hwq
        have xb : wq.cell? ⟨kb, 0, none⟩ = some (.pointer (some ⟨g2, 0, none⟩)) := (blk_cell HT.out.box 0).trans rfl
        have y1 : wq.cell? ⟨KB, 1, none⟩ = some (.int .i64 o.at_) := (blk_cell BX.out 1).trans rfl
        have y2 : wq.cell? ⟨KB, 2, none⟩ = some (.slice bA o.b.length bc) := (blk_cell BX.out 2).trans rfl
        go_wp2_with fail
        refine (st_write HT.out.b o.at_ bA bc o.b (fun W' hk => Kd.C_below hcb.out (HT.out.b.I.after hk HT.out.b.B HT.out.b.B.size)) hbc.out (by have := IB.out.wl; omega)).mono ?_
        rintro e wz ⟨he, T2', hi, hs, hk2⟩
        have HTz := Aside0.mk (HT.out.callB hk2 hi hs)
        have BXz := Aside0.mk (lit_kept BX.out hk2 (fun h => by have := hT2.out KB h; omega))
        have IBz := Aside0.mk (IB.out.wr o.at_ o.b)
        clear xb y1 y2 HT BX hi hs hk2
        have y0 : wz.cell? ⟨KB, 0, none⟩ = some (.int .i64 o.k) := (blk_cell BXz.out 0).trans rfl
        by_cases hE2 : B.wrE o.at_ o.b.length = 0
        · rw [hE2] at he
          subst he
          by_cases h1 : o.k = 1
          · have b1 : (o.k == 1) = true := by simp [h1]
            have xb : wz.cell? ⟨kb, 0, none⟩ = some (.pointer (some ⟨g2, 0, none⟩)) := (blk_cell HTz.out.box 0).trans rfl
            clear hE2 h1
            go_wp2_with fail
            refine (st_on HTz.out.b none 0 [] (fun W' hk => Kd.C_nil _ _) (by decide) (-1) (by have := IBz.out.wl; omega)).mono ?_
            rintro e wy ⟨rfl, hi, hk2⟩
            have HTy := Aside0.mk (HTz.out.callB hk2 hi (fun k h => .inl h))
            have IBy := Aside0.mk (IBz.out.on.1.up (Nat.zero_le (k + 1)))
            clear HTz hi hk2 y0 xb
            go_wp2
            go_roundw
            case rel => exact ⟨k + 1, hl2, hl1, by go_num, ⟨_, _, _, _, _, _, HTy.out, IA.out, hn1, IBy.out⟩⟩
            case measure => simp [intOf]; omega
          · have b1 : (o.k == 1) = false := by simpa using h1
            clear hE2 h1
            go_wp2
            go_roundw
            case rel => exact ⟨k + 1, hl2, hl1, by go_num, ⟨_, _, _, _, _, _, HTz.out, IA.out, hn1, IBz.out⟩⟩
            case measure => simp [intOf]; omega
        · have bE : (B.wrE o.at_ o.b.length == 0) = false := by simpa using hE2
          subst he
          clear hE2
          go_wp2
          go_roundw
          case rel => exact ⟨k + 1, hl2, hl1, by go_num, ⟨_, _, _, _, _, _, HTz.out, IA.out, hn1, IBz.out⟩⟩
          case measure => simp [intOf]; omega
    · have hbb : decide (k < ops.length) = false ∨ (decide (k < ops.length) = true ∧ k < ops.length ∧ decide ((k : Int) < 30) = false) := by
        rcases Nat.lt_or_ge k ops.length with h | h
        · exact .inr ⟨decide_eq_true h, h, decide_eq_false (by omega)⟩
        · exact .inl (decide_eq_false (by omega))
      obtain ⟨wb, hwb⟩ : ∃ x, x = wr := ⟨_, rfl⟩
      subst hwb
      have hVK := Aside0.mk (show ∀ k, u5.ownBlock = some k → k < wb.heap.size from fun k hk => Kd.R_lt HT.out.kp k hk)
      have hT1 := Aside0.mk (show ∀ k, T1 k → k < wb.heap.size from fun k hk => (HT.out.a.lt k hk).2)
      have hT2 := Aside0.mk (show ∀ k, T2 k → k < wb.heap.size from fun k hk => (HT.out.b.lt k hk).2)
      clear hlt hko hn
      rcases hbb with bb | ⟨bb, bb2, bb3⟩
      all_goals
        go_wp2
        go_loopw [10, 11] (fun v i wx => ∃ j : Nat, j ≤ 8 ∧ i = .int .i64 j ∧ Aside0 (Kd.string.R 9 wx wb.heap.size (fun _ => True) v (allF A j) ∧ Below wb.heap.size wb wx)) (fun _ i _ => 8 - (intOf i).toNat)
        case atStart => exact ⟨0, Nat.zero_le _, rfl, ⟨lit_R wb (Nat.le_refl _), below_alloc (Below.refl _ _) _⟩⟩
        case round =>
          obtain ⟨j, hj, rfl, hR⟩ := hrel
          by_cases hlt : j < 8
          · go_wp2_with fail
            refine (st_read (HT.out.a.below hR.out.2) (j : Int)).mono ?_
            rintro e w7 ⟨⟨A7, c7, l7⟩, he, hl, ho, hb⟩
            rw [(rd_8 IA.out.n8 IA.out.dn IA.out.tn j hlt).1] at he
            subst he
            have cv := cv_all (own_C ho).2 (Below.refl _ _) c7
            have hl' : strOfNums l7 = strOfNums (A.rdB (j : Int)) := congrArg strOfNums hl
            rw [hl'] at cv
            have HR2 := Aside0.mk (Kd.R_below hR.out.1 hb)
            have HB2 := Aside0.mk (below_step hR.out.2 hb)
            unfold Sec.v
            clear hR hl ho hb hl'
            go_wp2_with (at_builtin; refine Kd.R_append Kd.string (w0 := wb) wb.heap.size rfl (.tmp 93) (.tmp 96) 40 9 (.string ByteArray.empty) 16 rfl Try.underlying40 infoS rfl (by decide) (by decide) _ (allF A j) (strOfNums (A.rdB (j : Int))) [.string (strOfNums (A.rdB (j : Int)))] (fun _ => True) (fun _ => False) rfl rfl rfl (fun _ h => h.elim) (fun _ _ => trivial) HR2.out HB2.out HB2.out.size (by rw [allF_len]; omega) ?_; intro v1 w1 hR hB _ _; have HR3 := Aside0.mk hR; have HB3 := Aside0.mk hB; clear hR hB HR2 HB2)
            go_roundw
            case rel => exact ⟨j + 1, hlt, by go_num, ⟨by rw [allF_succ]; exact HR3.out, HB3.out⟩⟩
            case measure => simp [intOf]; omega
          · obtain rfl : j = 8 := by omega
            have HT2 := Aside0.mk (HT.out.below hR.out.2)
            have HW := Aside0.mk hR.out.1
            clear HT hR
            go_wp2_with fail
            refine (st_off HT2.out.a).mono ?_
            rintro e w4 ⟨rfl, hi, hk2⟩
            have HT4 := Aside0.mk (HT2.out.callA hk2 hi (fun k h => .inl h))
            have HW4 := Aside0.mk (row_kept HW.out hk2 hT1.out)
            clear HT2 HW hi hk2
            obtain ⟨Ak, ck, hvk, hck⟩ := row_len HT4.out.kp
            rw [List.length_replicate] at hvk
            have HVE := Aside0.mk hvk
            subst hvk
            go_wp2_with fail
            refine (calls_of_args (args' := #[.pointer (some ⟨g1, 0, none⟩), .slice Ak (List.replicate n true).length ck, .int .i64 0]) (by rw [List.length_replicate]) (st_on HT4.out.a Ak ck (List.replicate n true) (fun W' hk => HT4.out.keepC hk) (by simp; omega) 0 (by show A.wait.length ≤ 1000000; rw [IA.out.wl]; omega))).mono ?_
            rintro e w5 ⟨rfl, hi, hk2⟩
            have HT5 := Aside0.mk (HT4.out.callA hk2 hi (fun k h => .inl h))
            have HW5 := Aside0.mk (row_kept HW4.out hk2 hT1.out)
            obtain ⟨f1, f2, f3, f4⟩ := IA.out.on
            have HF := Aside0.mk (And.intro f1 (And.intro f2 (And.intro f3 f4)))
            clear HT4 HW4 hi hk2 f1 f2 f3 f4
            have xb : w5.cell? ⟨kb, 0, none⟩ = some (.pointer (some ⟨g2, 0, none⟩)) := (blk_cell HT5.out.box 0).trans rfl
            go_wp2_with fail
            refine (st_on HT5.out.b none 0 [] (fun W' hk => Kd.C_nil _ _) (by decide) (-1) (by have := IB.out.wl; omega)).mono ?_
            rintro e w6 ⟨rfl, hi, hk2⟩
            have HT6 := Aside0.mk (HT5.out.callB hk2 hi (fun k h => .inl h))
            have HW6 := Aside0.mk (row_kept HW5.out hk2 hT2.out)
            obtain ⟨hsf, hsn⟩ := IB.out.on
            have hall := Aside0.mk (hsf.all hsn)
            clear HT5 HW5 hi hk2 xb hsf hsn
            go_wp2_with fail
            refine (all_ok HT6.out.b HT6.out.box).mono ?_
            rintro e w8 ⟨v8, rfl, hr, hb⟩
            rw [hall.out] at hr
            have HT8 := Aside0.mk (HT6.out.below hb)
            have HW8 := Aside0.mk (Kd.R_below HW6.out hb)
            have HN8 := Aside0.mk hr
            clear HT6 HW6 hr hb hall
            clear HVE
            obtain ⟨A', hA'⟩ : ∃ x, x = DA.on (List.replicate n true) 0 A.off := ⟨_, rfl⟩
            rw [← hA'] at HT8 HF
            clear hA'
            obtain ⟨gA, qA, hvA, _⟩ := Kd.R_form HW8.out (by rw [allF_len]; decide)
            obtain ⟨gN, qN, hvN, _⟩ := Kd.R_form HN8.out (by rw [allS_len]; decide)
            obtain ⟨gS, qS, hvS, _⟩ := Kd.R_form HT8.out.sf (by rw [allS_len]; decide)
            rw [allF_len] at hvA
            rw [allS_len] at hvN hvS
            subst hvA hvN hvS
            obtain ⟨wc, hwc⟩ : ∃ x, x = w8 := ⟨_, rfl⟩
            subst hwc
            go_wp2
            go_loopw [15] (fun i wx => ∃ j : Nat, j ≤ 8 ∧ i = .int .i64 j ∧ Aside0 (Below wc.heap.size wc wx)) (fun i _ => 8 - (intOf i).toNat)
            case atStart => exact ⟨0, Nat.zero_le _, rfl, ⟨Below.refl _ _⟩⟩
            case round =>
              obtain ⟨j, hj, rfl, hR⟩ := hrel
              by_cases hlt : j < 8
              · go_wp2_with fail
                refine (st_read (HT8.out.a.below hR.out) (j : Int)).mono ?_
                rintro e w7 ⟨⟨A7, c7, l7⟩, he, hl, ho, hb⟩
                have hz := rd_8 (show A'.now.length = 8 by rw [HF.out.1]; exact IA.out.n8) HF.out.2.2.1 HF.out.2.1 j hlt
                have hz0 := rd_8 IA.out.n8 IA.out.dn IA.out.tn j hlt
                rw [hz.1] at he
                subst he
                have hl' : strOfNums l7 = strOfNums (A.rdB (j : Int)) := by rw [show l7 = A'.rdB (j : Int) from hl, hz.2, hz0.2, HF.out.1]
                have hb7 := below_step hR.out hb
                have cv : ∀ q, (convert 22 9 (.slice A7 l7.length c7)).run Try.prog (w7.drewN q) = .ok (.string (strOfNums (A.rdB (j : Int)))) (w7.drewN q) := fun q => by
                  have h_ := cv_all (own_C ho).2 (below_drewN w7 q) c7
                  rw [hl'] at h_
                  exact h_
                have r1 := (Kd.R_celln (enc := Value.string) (h1 := fun _ => rfl) ByteArray.empty (Kd.R_below HW8.out hb7) (j : Int) (by omega) (by omega)).1
                have r2 := (Kd.R_celln (enc := Value.string) (h1 := fun _ => rfl) ByteArray.empty (Kd.R_below HN8.out hb7) (j : Int) (by omega) (by omega)).1
                have r3 := (Kd.R_celln (enc := Value.string) (h1 := fun _ => rfl) ByteArray.empty (Kd.R_below HT8.out.sf hb7) (j : Int) (by omega) (by omega)).1
                rw [Int.toNat_natCast] at r1 r2 r3
                rw [allF_rd A j hlt] at r1
                generalize rdOf ByteArray.empty (allS sf) (j : Int) = y at r2 r3
                have HB7 := Aside0.mk hb7
                have hj8 : (j : Int) < 8 := by omega
                unfold Sec.v
                clear hR hl ho hb hz hz0 hl' hb7
                go_upto_region 39 with fail
                go_quiet (fail)
                have HBQ := Aside0.mk (below_step HB7.out (below_drewN w7 nq))
                generalize w7.drewN nq = wq at HBQ ⊢
                clear cv r1 r2 r3 HB7
                go_wp2
                go_roundw
                case rel => exact ⟨j + 1, hlt, by go_num, ⟨HBQ.out⟩⟩
                case measure => simp [intOf]; omega
              · obtain rfl : j = 8 := by omega
                have HT9 := Aside0.mk (HT8.out.a.below hR.out)
                clear HT8
                go_wp2_with fail
                refine (waits_a HT9.out.I).mono ?_
                rw [show A'.wait.length = 0 by rw [HF.out.2.2.2]; rfl]
                rintro e w' ⟨rfl, rfl⟩
                have HBB := Aside0.mk HT9.out.B
                clear HT9
                go_wp2
                go_ret
                exact ⟨rfl, HBB.out⟩
end DiskAll
end Go.Proofs.Ytihmfccpgahmaaa.Dk
