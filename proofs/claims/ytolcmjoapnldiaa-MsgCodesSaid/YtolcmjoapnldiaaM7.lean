-- printed by a turned print (wip/mkprint.py of this repo) out of the translation; Lean checks it
import Derived.Test.YtolcmjoapnldiaaM0
import Derived.Test.YtolcmjoapnldiaaM1
import Derived.Test.YtolcmjoapnldiaaM2
namespace Go.Proofs.Ytolcmjoapnldiaa.Q
open Go.RowKit Go.Proofs.YtolcmjoapnldiaaW.PrintWords Go.Proofs.YtolcmjoapnldiaaW.PrintLast Go.Proofs.YtolcmjoapnldiaaW.PrintMore
attribute [local go_sem] max2_int min2_int max_two min_two max_three min_three max_four min_four   -- for this text's walks alone
set_option linter.unusedVariables false
set_option linter.unusedSimpArgs false

/-! ### dockmasterlaw15_bytes: function 34 -/
def dockmasterlaw15_bytes.j0 : Nat → List Int → Int → Int → Int → Int → Int → Int → Int → Int → Int → ByteArray → ByteArray → Bool → Int → Option (List Int)
  | 0, _, _, _, _, _, _, _, _, _, _, _, _, _, _ => none
  | k + 1, x3, x4, x213000, x213001, x213002, x213003, x213004, x213005, x213006, x213007, x213008, x213009, x213010, x213011 => if x213000 = 2 then ((num_Put.f k x3 x213005).bind fun t219 => (some t219)) else (if x213000 = 3 then ((num_Put.f k x3 x213005).bind fun t222 => ((num_Put.f k t222 (IntKind.u64.wrap (x213006))).bind fun t225 => (if t225.length < 140737488355328 then ((num_Text.f k (t225 ++ [(x213007) % 256]) x213008).bind fun t231 => ((num_Text.f k t231 x213009).bind fun t234 => (some t234))) else (none)))) else (if x213000 = 4 then ((num_Put.f k x3 (IntKind.u64.wrap (x213006))).bind fun t237 => ((some (([(x213011) % 256, x4] : List Int) : List Int)).bind fun y240 => (if t237.length + y240.length < 140737488355328 then ((num_Text.f k (t237 ++ y240) x213009).bind fun t246 => (some t246)) else (none)))) else (if x213000 = 5 then ((num_Put.f k x3 x213005).bind fun t249 => ((num_Put.f k t249 (IntKind.u64.wrap (x213006))).bind fun t252 => (some t252))) else (if x213000 = 6 then (if x3.length < 140737488355328 then (some (x3 ++ [(x213011) % 256])) else (none)) else (some x3)))))
def dockmasterlaw15_bytes.f (k : Nat) (a0_0 : Int) (a0_1 : Int) (a0_2 : Int) (a0_3 : Int) (a0_4 : Int) (a0_5 : Int) (a0_6 : Int) (a0_7 : Int) (a0_8 : ByteArray) (a0_9 : ByteArray) (a0_10 : Bool) (a0_11 : Int) : Option (List Int) := (num_Tid.f k (([(a0_0) % 256, (a0_1) % 256, (a0_2) % 256] : List Int)) a0_3 a0_4).bind fun t216 => (if a0_10 = true then (dockmasterlaw15_bytes.j0 k t216 1 a0_0 a0_1 a0_2 a0_3 a0_4 a0_5 a0_6 a0_7 a0_8 a0_9 a0_10 a0_11) else (dockmasterlaw15_bytes.j0 k t216 0 a0_0 a0_1 a0_2 a0_3 a0_4 a0_5 a0_6 a0_7 a0_8 a0_9 a0_10 a0_11))
theorem dockmasterlaw15_bytes.mono_l : ∀ k, (∀ y0 y1 y2 y3 y4 y5 y6 y7 y8 y9 y10 y11 y12 y13, LeO (dockmasterlaw15_bytes.j0 k y0 y1 y2 y3 y4 y5 y6 y7 y8 y9 y10 y11 y12 y13) (dockmasterlaw15_bytes.j0 (k + 1) y0 y1 y2 y3 y4 y5 y6 y7 y8 y9 y10 y11 y12 y13))
  | 0 => fun _ _ _ _ _ _ _ _ _ _ _ _ _ _ r h => by simp [dockmasterlaw15_bytes.j0] at h
  | k + 1 => by
    have ih0 := dockmasterlaw15_bytes.mono_l k
    · intro y0 y1 y2 y3 y4 y5 y6 y7 y8 y9 y10 y11 y12 y13
      unfold dockmasterlaw15_bytes.j0
      repeat' first
      | (with_reducible exact ih0 _ _ _ _ _ _ _ _ _ _ _ _ _ _)
      | (with_reducible exact num_Put.mono _ _ _)
      | (with_reducible exact num_Text.mono _ _ _)
      | (with_reducible exact num_Tid.mono _ _ _ _)
      | (with_reducible exact LeO.refl _)
      | (with_reducible exact LeO.none _)
      | (with_reducible refine LeO.ite ?_ ?_)
      | (with_reducible refine LeO.bind ?_ (fun _ => ?_))
      | exact ih0 _ _ _ _ _ _ _ _ _ _ _ _ _ _
      | exact num_Put.mono _ _ _
      | exact num_Text.mono _ _ _
      | exact num_Tid.mono _ _ _ _
      | exact LeO.none _
      | refine LeO.ite ?_ ?_
      | refine LeO.bind ?_ (fun _ => ?_)
theorem dockmasterlaw15_bytes.mono : ∀ a0 a1 a2 a3 a4 a5 a6 a7 a8 a9 a10 a11 k, LeO (dockmasterlaw15_bytes.f k a0 a1 a2 a3 a4 a5 a6 a7 a8 a9 a10 a11) (dockmasterlaw15_bytes.f (k + 1) a0 a1 a2 a3 a4 a5 a6 a7 a8 a9 a10 a11) := by
  intro a0 a1 a2 a3 a4 a5 a6 a7 a8 a9 a10 a11 k
  have ih0 := dockmasterlaw15_bytes.mono_l k
  unfold dockmasterlaw15_bytes.f
  repeat' first
      | (with_reducible exact ih0 _ _ _ _ _ _ _ _ _ _ _ _ _ _)
      | (with_reducible exact num_Put.mono _ _ _)
      | (with_reducible exact num_Text.mono _ _ _)
      | (with_reducible exact num_Tid.mono _ _ _ _)
      | (with_reducible exact LeO.refl _)
      | (with_reducible exact LeO.none _)
      | (with_reducible refine LeO.ite ?_ ?_)
      | (with_reducible refine LeO.bind ?_ (fun _ => ?_))
      | exact ih0 _ _ _ _ _ _ _ _ _ _ _ _ _ _
      | exact num_Put.mono _ _ _
      | exact num_Text.mono _ _ _
      | exact num_Tid.mono _ _ _ _
      | exact LeO.none _
      | refine LeO.ite ?_ ?_
      | refine LeO.bind ?_ (fun _ => ?_)
set_option maxHeartbeats 8000000 in
set_option maxRecDepth 100000 in
theorem dockmasterlaw15_bytes.calls (k : Nat) (a0_0 : Int) (a0_1 : Int) (a0_2 : Int) (a0_3 : Int) (a0_4 : Int) (a0_5 : Int) (a0_6 : Int) (a0_7 : Int) (a0_8 : ByteArray) (a0_9 : ByteArray) (a0_10 : Bool) (a0_11 : Int) (r : List Int) (w : World) (h : dockmasterlaw15_bytes.f k a0_0 a0_1 a0_2 a0_3 a0_4 a0_5 a0_6 a0_7 a0_8 a0_9 a0_10 a0_11 = some r) :
    Calls Try.prog 34 #[.agg #[.int .i64 a0_0, .int .i64 a0_1, .int .i64 a0_2, .int .u64 a0_3, .int .i64 a0_4, .int .u64 a0_5, .int .i64 a0_6, .int .i64 a0_7, .string a0_8, .string a0_9, .bool a0_10, .int .i64 a0_11]] w fun e w' => ∃ v0_ : Value, e = .returned (v0_) ∧ Kd.R (Kd.int .u8) 5 w' w.heap.size (fun _ => True) v0_ r ∧ Below w.heap.size w w' := by
  have hu47 := Try.underlying47
  have hu28 := Try.underlying28
  have HB := Aside0.mk (Below.refl w.heap.size w)
  have H : ((num_Tid.f k (([(a0_0) % 256, (a0_1) % 256, (a0_2) % 256] : List Int)) a0_3 a0_4).bind fun t216 => (if a0_10 = true then (dockmasterlaw15_bytes.j0 k t216 1 a0_0 a0_1 a0_2 a0_3 a0_4 a0_5 a0_6 a0_7 a0_8 a0_9 a0_10 a0_11) else (dockmasterlaw15_bytes.j0 k t216 0 a0_0 a0_1 a0_2 a0_3 a0_4 a0_5 a0_6 a0_7 a0_8 a0_9 a0_10 a0_11))) = some r := h
  clear h
  obtain ⟨y213, hy213⟩ : ∃ y_ : List Int, y_ = (([(a0_0) % 256, (a0_1) % 256, (a0_2) % 256] : List Int)) := ⟨_, rfl⟩
  replace H : ((num_Tid.f k y213 a0_3 a0_4).bind fun t216 => (if a0_10 = true then (dockmasterlaw15_bytes.j0 k t216 1 a0_0 a0_1 a0_2 a0_3 a0_4 a0_5 a0_6 a0_7 a0_8 a0_9 a0_10 a0_11) else (dockmasterlaw15_bytes.j0 k t216 0 a0_0 a0_1 a0_2 a0_3 a0_4 a0_5 a0_6 a0_7 a0_8 a0_9 a0_10 a0_11))) = some r := by first | (rw [hy213]; with_reducible exact H) | (have H2_ := (Option.bind_some _ _).symm.trans H; rw [hy213]; with_reducible exact H2_) | (have H2_ := (Option.bind_some _ _).symm.trans H; with_reducible exact H2_) | with_reducible exact H | (rw [hy213]; exact H) | exact H
  have Ny213 := Aside0.mk hy213
  clear hy213
  replace H := Option.bind_eq_some_iff.mp H
  obtain ⟨t216, A20, H⟩ := H
  replace H : (if a0_10 = true then (dockmasterlaw15_bytes.j0 k t216 1 a0_0 a0_1 a0_2 a0_3 a0_4 a0_5 a0_6 a0_7 a0_8 a0_9 a0_10 a0_11) else (dockmasterlaw15_bytes.j0 k t216 0 a0_0 a0_1 a0_2 a0_3 a0_4 a0_5 a0_6 a0_7 a0_8 a0_9 a0_10 a0_11)) = some r := H
  have A2 := Aside0.mk A20
  clear A20
  have HC3 := Aside0.mk H
  clear H
  go_enter Try.func34, Try.ntmps34
  go_upto_if 19 with (first | ((with_reducible refine gate_dst (N := 1) rfl ?_); refine box_event ?hg (N := 1) ?hd (cs := #[.int .i64 a0_0, .int .i64 a0_1, .int .i64 a0_2, .int .u64 a0_3, .int .i64 a0_4, .int .u64 a0_5, .int .i64 a0_6, .int .i64 a0_7, .string a0_8, .string a0_9, .bool a0_10, .int .i64 a0_11]) (t := 47) ?hr ?_; (case hd => rfl); (case hg => rfl); (case hr => first | (go_simp; done) | (go_simp; rfl)); intro gb212 hg w4 hbox hb; have n0_ := Aside0.mk (below_step (by repeat (first | (with_reducible first | exact HB.out | apply below_alloc | apply pw_below_drewN | apply below_drew1) | exact HB.out)) hb); have n1_ := Aside0.mk (hbox); have n2_ := Aside0.mk ((by rw [hg]; exact (below_size (by repeat (first | (with_reducible first | exact HB.out | apply below_alloc | apply pw_below_drewN | apply below_drew1) | exact HB.out))) : w.heap.size ≤ gb212)); have n3_ := Aside0.mk ((by rw [hg]; exact (below_size (by repeat (first | (with_reducible first | exact HB.out | apply below_alloc | apply pw_below_drewN | apply below_drew1) | exact HB.out))) : w.heap.size ≤ gb212)); clear HB; have HB := n0_; have BK212 := n1_; have GW212 := n2_; have GE212 := n3_; clear n0_ n1_ n2_ n3_; clear hb hbox hg; have hcz5_0 : w4.cell? ⟨gb212, 0, none⟩ = some (.int .i64 a0_0) := (blk_cell BK212.out 0).trans rfl; have hcz5_1 : w4.cell? ⟨gb212, 1, none⟩ = some (.int .i64 a0_1) := (blk_cell BK212.out 1).trans rfl; have hcz5_2 : w4.cell? ⟨gb212, 2, none⟩ = some (.int .i64 a0_2) := (blk_cell BK212.out 2).trans rfl; have hcz5_3 : w4.cell? ⟨gb212, 3, none⟩ = some (.int .u64 a0_3) := (blk_cell BK212.out 3).trans rfl; have hcz5_4 : w4.cell? ⟨gb212, 4, none⟩ = some (.int .i64 a0_4) := (blk_cell BK212.out 4).trans rfl; have hcz5_5 : w4.cell? ⟨gb212, 5, none⟩ = some (.int .u64 a0_5) := (blk_cell BK212.out 5).trans rfl; have hcz5_6 : w4.cell? ⟨gb212, 6, none⟩ = some (.int .i64 a0_6) := (blk_cell BK212.out 6).trans rfl; have hcz5_7 : w4.cell? ⟨gb212, 7, none⟩ = some (.int .i64 a0_7) := (blk_cell BK212.out 7).trans rfl; have hcz5_8 : w4.cell? ⟨gb212, 8, none⟩ = some (.string a0_8) := (blk_cell BK212.out 8).trans rfl; have hcz5_9 : w4.cell? ⟨gb212, 9, none⟩ = some (.string a0_9) := (blk_cell BK212.out 9).trans rfl; have hcz5_10 : w4.cell? ⟨gb212, 10, none⟩ = some (.bool a0_10) := (blk_cell BK212.out 10).trans rfl; have hcz5_11 : w4.cell? ⟨gb212, 11, none⟩ = some (.int .i64 a0_11) := (blk_cell BK212.out 11).trans rfl; have hfz5_0 := blk_frozen BK212.out 0; have hfz5_1 := blk_frozen BK212.out 1; have hfz5_2 := blk_frozen BK212.out 2; have hfz5_3 := blk_frozen BK212.out 3; have hfz5_4 := blk_frozen BK212.out 4; have hfz5_5 := blk_frozen BK212.out 5; have hfz5_6 := blk_frozen BK212.out 6; have hfz5_7 := blk_frozen BK212.out 7; have hfz5_8 := blk_frozen BK212.out 8; have hfz5_9 := blk_frozen BK212.out 9; have hfz5_10 := blk_frozen BK212.out 10; have hfz5_11 := blk_frozen BK212.out 11) | ((with_reducible refine gate_dst (N := 14) rfl ?_); refine Kd.R_lit (Kd.int .u8) _ 5 ?hg (N := 14) ?hd (xs := ([(a0_0) % 256, (a0_1) % 256, (a0_2) % 256] : List Int)) (inner := [.int .u8 ((a0_0) % 256), .int .u8 ((a0_1) % 256), .int .u8 ((a0_2) % 256)]) (ok := fun _ => True) (okp := fun _ => True) ?hr ?hp (fun _ hk => hk) trivial (Below.refl _ _) (Nat.le_refl _) (by simp) ?_; (case hd => rfl); (case hg => rfl); (case hr => first | (go_simp; done) | (go_simp; rfl)); (case hp => exact (Reps.one (show Kd.M (Kd.int .u8) _ _ _ ((a0_0) % 256) [.int .u8 ((a0_0) % 256)] from rfl) (Reps.one (show Kd.M (Kd.int .u8) _ _ _ ((a0_1) % 256) [.int .u8 ((a0_1) % 256)] from rfl) (Reps.one (show Kd.M (Kd.int .u8) _ _ _ ((a0_2) % 256) [.int .u8 ((a0_2) % 256)] from rfl) (Reps.none _ _))))); intro v214 w6 ho7 hb hg_ hnew_; clear hg_ hnew_; (first | rw [← Ny213.out] at ho7 | (simp only [Int.reduceToNat] at ho7; rw [← Ny213.out] at ho7)); have n0_ := Aside0.mk (Kd.R_lower ho7 (below_size (by repeat (first | (with_reducible first | exact HB.out | apply below_alloc | apply pw_below_drewN | apply below_drew1 | refine below_set ?_ GE212.out) | exact HB.out)))); have n1_ := Aside0.mk (blk_below (g := gb212) (o := .cells #[.int .i64 a0_0, .int .i64 a0_1, .int .i64 a0_2, .int .u64 a0_3, .int .i64 a0_4, .int .u64 a0_5, .int .i64 a0_6, .int .i64 a0_7, .string a0_8, .string a0_9, .bool a0_10, .int .i64 a0_11] 47 (0, 0)) (by (with_reducible repeat (first | refine blk_drewN ?_ _ | refine blk_drew ?_ | refine blk_alloc ?_ _)); exact BK212.out) hb); have n2_ := Aside0.mk (below_step (by repeat (first | (with_reducible first | exact HB.out | apply below_alloc | apply pw_below_drewN | apply below_drew1 | refine below_set ?_ GE212.out) | exact HB.out)) hb); clear BK212; clear HB; have HO215 := n0_; have BK212 := n1_; have HB := n2_; clear n0_ n1_ n2_; clear hb ho7; have hcz8_0 : w6.cell? ⟨gb212, 0, none⟩ = some (.int .i64 a0_0) := (blk_cell BK212.out 0).trans rfl; have hcz8_1 : w6.cell? ⟨gb212, 1, none⟩ = some (.int .i64 a0_1) := (blk_cell BK212.out 1).trans rfl; have hcz8_2 : w6.cell? ⟨gb212, 2, none⟩ = some (.int .i64 a0_2) := (blk_cell BK212.out 2).trans rfl; have hcz8_3 : w6.cell? ⟨gb212, 3, none⟩ = some (.int .u64 a0_3) := (blk_cell BK212.out 3).trans rfl; have hcz8_4 : w6.cell? ⟨gb212, 4, none⟩ = some (.int .i64 a0_4) := (blk_cell BK212.out 4).trans rfl; have hcz8_5 : w6.cell? ⟨gb212, 5, none⟩ = some (.int .u64 a0_5) := (blk_cell BK212.out 5).trans rfl; have hcz8_6 : w6.cell? ⟨gb212, 6, none⟩ = some (.int .i64 a0_6) := (blk_cell BK212.out 6).trans rfl; have hcz8_7 : w6.cell? ⟨gb212, 7, none⟩ = some (.int .i64 a0_7) := (blk_cell BK212.out 7).trans rfl; have hcz8_8 : w6.cell? ⟨gb212, 8, none⟩ = some (.string a0_8) := (blk_cell BK212.out 8).trans rfl; have hcz8_9 : w6.cell? ⟨gb212, 9, none⟩ = some (.string a0_9) := (blk_cell BK212.out 9).trans rfl; have hcz8_10 : w6.cell? ⟨gb212, 10, none⟩ = some (.bool a0_10) := (blk_cell BK212.out 10).trans rfl; have hcz8_11 : w6.cell? ⟨gb212, 11, none⟩ = some (.int .i64 a0_11) := (blk_cell BK212.out 11).trans rfl; have hfz8_0 := blk_frozen BK212.out 0; have hfz8_1 := blk_frozen BK212.out 1; have hfz8_2 := blk_frozen BK212.out 2; have hfz8_3 := blk_frozen BK212.out 3; have hfz8_4 := blk_frozen BK212.out 4; have hfz8_5 := blk_frozen BK212.out 5; have hfz8_6 := blk_frozen BK212.out 6; have hfz8_7 := blk_frozen BK212.out 7; have hfz8_8 := blk_frozen BK212.out 8; have hfz8_9 := blk_frozen BK212.out 9; have hfz8_10 := blk_frozen BK212.out 10; have hfz8_11 := blk_frozen BK212.out 11; obtain ⟨Ao9, co9, eo9⟩ := Kd.R_slice HO215.out; subst eo9) | ((with_reducible refine gate_callee (f := 19) rfl ?_); refine goesL_ (some 17) rfl rfl Try.func19 (by kernel_rfl) rfl #[.slice Ao9 y213.length co9, .agg #[.int .u64 a0_3, .int .i64 a0_4]] rfl (by (try simp only [List.map_toArray, List.map_cons, List.map_nil]); first | done | rfl | (simp only [List.length_drop, List.length_take]; rfl)) ?_; (with_reducible refine (num_Tid.calls k (fun k_ => some k_ = (.slice Ao9 y213.length co9 : Value).ownBlock) (.slice Ao9 y213.length co9) y213 a0_3 a0_4 t216 w _ ?side1 ?side2 A2.out).mono ?_); (case side1 => repeat (first | (with_reducible first | exact HB.out | apply below_alloc | apply pw_below_drewN | apply below_drew1 | refine below_set ?_ GE212.out) | exact HB.out)); (case side2 => exact Kd.R_tight rfl HO215.out); rintro e w10 ⟨v217, rfl, ho0, hb, hkp⟩; refine ⟨_, rfl, ?_⟩; have n0_ := Aside0.mk (blk_kept (by (with_reducible repeat (first | refine blk_drewN ?_ _ | refine blk_drew ?_ | refine blk_alloc ?_ _)); exact BK212.out) hkp (fun hs_ => (fun e_ => (Kd.R_ne HO215.out BK212.out (by decide)) e_) hs_)); have n1_ := Aside0.mk (Kd.R_mono (ok' := fun k_ => True) ho0 (fun k_ hk_ => trivial)); have n2_ := Aside0.mk (hb); clear BK212; clear HB; clear HO215; have BK212 := n0_; have HO218 := n1_; have HB := n2_; clear n0_ n1_ n2_; (try clear hb); (try clear hkp); (try clear ho0); have hcz11_0 : w10.cell? ⟨gb212, 0, none⟩ = some (.int .i64 a0_0) := (blk_cell BK212.out 0).trans rfl; have hcz11_1 : w10.cell? ⟨gb212, 1, none⟩ = some (.int .i64 a0_1) := (blk_cell BK212.out 1).trans rfl; have hcz11_2 : w10.cell? ⟨gb212, 2, none⟩ = some (.int .i64 a0_2) := (blk_cell BK212.out 2).trans rfl; have hcz11_3 : w10.cell? ⟨gb212, 3, none⟩ = some (.int .u64 a0_3) := (blk_cell BK212.out 3).trans rfl; have hcz11_4 : w10.cell? ⟨gb212, 4, none⟩ = some (.int .i64 a0_4) := (blk_cell BK212.out 4).trans rfl; have hcz11_5 : w10.cell? ⟨gb212, 5, none⟩ = some (.int .u64 a0_5) := (blk_cell BK212.out 5).trans rfl; have hcz11_6 : w10.cell? ⟨gb212, 6, none⟩ = some (.int .i64 a0_6) := (blk_cell BK212.out 6).trans rfl; have hcz11_7 : w10.cell? ⟨gb212, 7, none⟩ = some (.int .i64 a0_7) := (blk_cell BK212.out 7).trans rfl; have hcz11_8 : w10.cell? ⟨gb212, 8, none⟩ = some (.string a0_8) := (blk_cell BK212.out 8).trans rfl; have hcz11_9 : w10.cell? ⟨gb212, 9, none⟩ = some (.string a0_9) := (blk_cell BK212.out 9).trans rfl; have hcz11_10 : w10.cell? ⟨gb212, 10, none⟩ = some (.bool a0_10) := (blk_cell BK212.out 10).trans rfl; have hcz11_11 : w10.cell? ⟨gb212, 11, none⟩ = some (.int .i64 a0_11) := (blk_cell BK212.out 11).trans rfl; have hfz11_0 := blk_frozen BK212.out 0; have hfz11_1 := blk_frozen BK212.out 1; have hfz11_2 := blk_frozen BK212.out 2; have hfz11_3 := blk_frozen BK212.out 3; have hfz11_4 := blk_frozen BK212.out 4; have hfz11_5 := blk_frozen BK212.out 5; have hfz11_6 := blk_frozen BK212.out 6; have hfz11_7 := blk_frozen BK212.out 7; have hfz11_8 := blk_frozen BK212.out 8; have hfz11_9 := blk_frozen BK212.out 9; have hfz11_10 := blk_frozen BK212.out 10; have hfz11_11 := blk_frozen BK212.out 11))
  (try simp only [Act.put, List.setIfInBounds_toArray, List.set_cons_zero, List.set_cons_succ])
  go_cut [4] (fun v4 wc => ∃ (kq : Nat) (x4_2 : Int), v4 = .int .u8 x4_2 ∧ Aside0 (dockmasterlaw15_bytes.j0 kq t216 x4_2 a0_0 a0_1 a0_2 a0_3 a0_4 a0_5 a0_6 a0_7 a0_8 a0_9 a0_10 a0_11 = some r) ∧ Aside0 (kq ≤ k) ∧ Aside0 (Kd.R (Kd.int .u8) 5 wc w.heap.size (fun _ => True) v217 t216) ∧ Aside0 (wc.heap[gb212]? = some (.cells #[.int .i64 a0_0, .int .i64 a0_1, .int .i64 a0_2, .int .u64 a0_3, .int .i64 a0_4, .int .u64 a0_5, .int .i64 a0_6, .int .i64 a0_7, .string a0_8, .string a0_9, .bool a0_10, .int .i64 a0_11] 47 (0, 0))) ∧ Aside0 (Below w.heap.size w wc))
  case first =>
    have H := HC3.out
    clear HC3
    by_cases c12 : a0_10 = true
    · subst c12
      have H1 : (dockmasterlaw15_bytes.j0 k t216 1 a0_0 a0_1 a0_2 a0_3 a0_4 a0_5 a0_6 a0_7 a0_8 a0_9 true a0_11) = some r := by rw [if_pos rfl] at H; exact H
      clear H
      have H := H1
      clear H1
      have H' := Aside0.mk H
      clear H
      go_wp2
      go_meet
      case rel => exact ⟨_, (1), (by first | rfl | (simp; done) | (simp [*]; done)), H', ⟨by first | omega | exact Nat.le_refl _⟩, ⟨by (with_reducible repeat (first | apply Kd.R_alloc | apply Kd.R_drewN | apply Kd.R_drew)); exact HO218.out⟩, ⟨by (with_reducible repeat (first | refine blk_drewN ?_ _ | refine blk_drew ?_ | refine blk_alloc ?_ _)); exact BK212.out⟩, ⟨by repeat (first | (with_reducible first | exact HB.out | apply below_alloc | apply pw_below_drewN | apply below_drew1 | refine below_set ?_ GE212.out) | exact HB.out)⟩⟩
    · replace c12 := Bool.eq_false_iff.mpr c12
      subst c12
      have H1 : (dockmasterlaw15_bytes.j0 k t216 0 a0_0 a0_1 a0_2 a0_3 a0_4 a0_5 a0_6 a0_7 a0_8 a0_9 false a0_11) = some r := by rw [if_neg (show ¬ (false = true) by decide)] at H; exact H
      clear H
      have H := H1
      clear H1
      have H' := Aside0.mk H
      clear H
      go_wp2
      go_meet
      case rel => exact ⟨_, (0), (by first | rfl | (simp; done) | (simp [*]; done)), H', ⟨by first | omega | exact Nat.le_refl _⟩, ⟨by (with_reducible repeat (first | apply Kd.R_alloc | apply Kd.R_drewN | apply Kd.R_drew)); exact HO218.out⟩, ⟨by (with_reducible repeat (first | refine blk_drewN ?_ _ | refine blk_drew ?_ | refine blk_alloc ?_ _)); exact BK212.out⟩, ⟨by repeat (first | (with_reducible first | exact HB.out | apply below_alloc | apply pw_below_drewN | apply below_drew1 | refine below_set ?_ GE212.out) | exact HB.out)⟩⟩
  case rest =>
    clear HC3
    try clear c1
    try clear p2
    try clear c3
    try clear c12
    try clear hcz11_0
    try clear hcz11_1
    try clear hcz11_10
    try clear hcz11_11
    try clear hcz11_2
    try clear hcz11_3
    try clear hcz11_4
    try clear hcz11_5
    try clear hcz11_6
    try clear hcz11_7
    try clear hcz11_8
    try clear hcz11_9
    try clear hcz5_0
    try clear hcz5_1
    try clear hcz5_10
    try clear hcz5_11
    try clear hcz5_2
    try clear hcz5_3
    try clear hcz5_4
    try clear hcz5_5
    try clear hcz5_6
    try clear hcz5_7
    try clear hcz5_8
    try clear hcz5_9
    try clear hcz8_0
    try clear hcz8_1
    try clear hcz8_10
    try clear hcz8_11
    try clear hcz8_2
    try clear hcz8_3
    try clear hcz8_4
    try clear hcz8_5
    try clear hcz8_6
    try clear hcz8_7
    try clear hcz8_8
    try clear hcz8_9
    try clear hfz11_0
    try clear hfz11_1
    try clear hfz11_10
    try clear hfz11_11
    try clear hfz11_2
    try clear hfz11_3
    try clear hfz11_4
    try clear hfz11_5
    try clear hfz11_6
    try clear hfz11_7
    try clear hfz11_8
    try clear hfz11_9
    try clear hfz5_0
    try clear hfz5_1
    try clear hfz5_10
    try clear hfz5_11
    try clear hfz5_2
    try clear hfz5_3
    try clear hfz5_4
    try clear hfz5_5
    try clear hfz5_6
    try clear hfz5_7
    try clear hfz5_8
    try clear hfz5_9
    try clear hfz8_0
    try clear hfz8_1
    try clear hfz8_10
    try clear hfz8_11
    try clear hfz8_2
    try clear hfz8_3
    try clear hfz8_4
    try clear hfz8_5
    try clear hfz8_6
    try clear hfz8_7
    try clear hfz8_8
    try clear hfz8_9
    obtain ⟨kq, x4_2, rfl, HA, HJ2, HO_3, BK212, HB⟩ := hcut
    cases kq with
    | zero => exact absurd HA.out (by simp [dockmasterlaw15_bytes.j0])
    | succ kj2 =>
      have H := HA.out
      clear HA
      simp only [dockmasterlaw15_bytes.j0] at H
      by_cases c13 : a0_0 = 2
      · rw [if_pos c13] at H
        have c13b0 : (a0_0 == 2) = true := beq_iff_eq.mpr c13
        have c13b1 : (a0_0 != 2) = false := bne_eq_false_iff_eq.mpr c13
        clear c13
        replace H := Option.bind_eq_some_iff.mp H
        obtain ⟨t219, A140, H⟩ := H
        replace H : (some t219) = some r := H
        have A14 := Aside0.mk A140
        clear A140
        obtain rfl := Option.some.inj H
        have hcz15_0 : wc.cell? ⟨gb212, 0, none⟩ = some (.int .i64 a0_0) := (blk_cell BK212.out 0).trans rfl
        have hcz15_1 : wc.cell? ⟨gb212, 1, none⟩ = some (.int .i64 a0_1) := (blk_cell BK212.out 1).trans rfl
        have hcz15_2 : wc.cell? ⟨gb212, 2, none⟩ = some (.int .i64 a0_2) := (blk_cell BK212.out 2).trans rfl
        have hcz15_3 : wc.cell? ⟨gb212, 3, none⟩ = some (.int .u64 a0_3) := (blk_cell BK212.out 3).trans rfl
        have hcz15_4 : wc.cell? ⟨gb212, 4, none⟩ = some (.int .i64 a0_4) := (blk_cell BK212.out 4).trans rfl
        have hcz15_5 : wc.cell? ⟨gb212, 5, none⟩ = some (.int .u64 a0_5) := (blk_cell BK212.out 5).trans rfl
        have hcz15_6 : wc.cell? ⟨gb212, 6, none⟩ = some (.int .i64 a0_6) := (blk_cell BK212.out 6).trans rfl
        have hcz15_7 : wc.cell? ⟨gb212, 7, none⟩ = some (.int .i64 a0_7) := (blk_cell BK212.out 7).trans rfl
        have hcz15_8 : wc.cell? ⟨gb212, 8, none⟩ = some (.string a0_8) := (blk_cell BK212.out 8).trans rfl
        have hcz15_9 : wc.cell? ⟨gb212, 9, none⟩ = some (.string a0_9) := (blk_cell BK212.out 9).trans rfl
        have hcz15_10 : wc.cell? ⟨gb212, 10, none⟩ = some (.bool a0_10) := (blk_cell BK212.out 10).trans rfl
        have hcz15_11 : wc.cell? ⟨gb212, 11, none⟩ = some (.int .i64 a0_11) := (blk_cell BK212.out 11).trans rfl
        have hfz15_0 := blk_frozen BK212.out 0
        have hfz15_1 := blk_frozen BK212.out 1
        have hfz15_2 := blk_frozen BK212.out 2
        have hfz15_3 := blk_frozen BK212.out 3
        have hfz15_4 := blk_frozen BK212.out 4
        have hfz15_5 := blk_frozen BK212.out 5
        have hfz15_6 := blk_frozen BK212.out 6
        have hfz15_7 := blk_frozen BK212.out 7
        have hfz15_8 := blk_frozen BK212.out 8
        have hfz15_9 := blk_frozen BK212.out 9
        have hfz15_10 := blk_frozen BK212.out 10
        have hfz15_11 := blk_frozen BK212.out 11
        obtain ⟨Ao16, co16, eo16⟩ := Kd.R_slice HO_3.out
        subst eo16
        go_wp2_with (first | ((with_reducible refine gate_callee (f := 16) rfl ?_); refine goesL_ (some 27) rfl rfl Try.func16 (by kernel_rfl) rfl #[.slice Ao16 t216.length co16, .int .u64 a0_5] rfl (by (try simp only [List.map_toArray, List.map_cons, List.map_nil]); first | done | rfl | (simp only [List.length_drop, List.length_take]; rfl)) ?_; (with_reducible refine (num_Put.calls kj2 (fun k_ => some k_ = (.slice Ao16 t216.length co16 : Value).ownBlock) (.slice Ao16 t216.length co16) t216 a0_5 t219 w _ ?side1 ?side2 A14.out).mono ?_); (case side1 => repeat (first | (with_reducible first | exact HB.out | apply below_alloc | apply pw_below_drewN | apply below_drew1 | refine below_set ?_ GE212.out) | exact HB.out)); (case side2 => exact Kd.R_tight rfl HO_3.out); rintro e w17 ⟨v220, rfl, ho0, hb, hkp⟩; refine ⟨_, rfl, ?_⟩; have n0_ := Aside0.mk (blk_kept (by (with_reducible repeat (first | refine blk_drewN ?_ _ | refine blk_drew ?_ | refine blk_alloc ?_ _)); exact BK212.out) hkp (fun hs_ => (fun e_ => (Kd.R_ne HO_3.out BK212.out (by decide)) e_) hs_)); have n1_ := Aside0.mk (Kd.R_mono (ok' := fun k_ => True) ho0 (fun k_ hk_ => trivial)); have n2_ := Aside0.mk (hb); clear BK212; clear HB; clear HO_3; have BK212 := n0_; have HO221 := n1_; have HB := n2_; clear n0_ n1_ n2_; (try clear hb); (try clear hkp); (try clear ho0)))
        go_ret
        exact ⟨_, by first | rfl | (simp [errW_none, errW_some] <;> rfl) | (simp [*, errW_none, errW_some] <;> rfl), by (with_reducible repeat (first | apply Kd.R_alloc | apply Kd.R_drewN | apply Kd.R_drew)); exact HO221.out, by repeat (first | (with_reducible first | exact HB.out | apply below_alloc | apply pw_below_drewN | apply below_drew1 | refine below_set ?_ GE212.out) | exact HB.out)⟩
      · rw [if_neg c13] at H
        have c13b0 : (a0_0 == 2) = false := beq_eq_false_iff_ne.mpr c13
        have c13b1 : (a0_0 != 2) = true := bne_iff_ne.mpr c13
        by_cases c18 : a0_0 = 3
        · rw [if_pos c18] at H
          have c18b0 : (a0_0 == 3) = true := beq_iff_eq.mpr c18
          have c18b1 : (a0_0 != 3) = false := bne_eq_false_iff_eq.mpr c18
          clear c18
          replace H := Option.bind_eq_some_iff.mp H
          obtain ⟨t222, A190, H⟩ := H
          replace H : ((num_Put.f kj2 t222 (IntKind.u64.wrap (a0_6))).bind fun t225 => (if t225.length < 140737488355328 then ((num_Text.f kj2 (t225 ++ [(a0_7) % 256]) a0_8).bind fun t231 => ((num_Text.f kj2 t231 a0_9).bind fun t234 => (some t234))) else (none))) = some r := H
          have A19 := Aside0.mk A190
          clear A190
          replace H := Option.bind_eq_some_iff.mp H
          obtain ⟨t225, A200, H⟩ := H
          replace H : (if t225.length < 140737488355328 then ((num_Text.f kj2 (t225 ++ [(a0_7) % 256]) a0_8).bind fun t231 => ((num_Text.f kj2 t231 a0_9).bind fun t234 => (some t234))) else (none)) = some r := H
          have A20 := Aside0.mk A200
          clear A200
          by_cases c21 : t225.length < 140737488355328
          · rw [if_pos c21] at H
            have LMc21 := Aside0.mk c21
            clear c21
            obtain ⟨y228, hy228⟩ : ∃ y_ : List Int, y_ = (t225 ++ [(a0_7) % 256]) := ⟨_, rfl⟩
            replace H : ((num_Text.f kj2 y228 a0_8).bind fun t231 => ((num_Text.f kj2 t231 a0_9).bind fun t234 => (some t234))) = some r := by first | (rw [hy228]; with_reducible exact H) | (have H2_ := (Option.bind_some _ _).symm.trans H; rw [hy228]; with_reducible exact H2_) | (have H2_ := (Option.bind_some _ _).symm.trans H; with_reducible exact H2_) | with_reducible exact H | (rw [hy228]; exact H) | exact H
            have Ny228 := Aside0.mk hy228
            clear hy228
            replace H := Option.bind_eq_some_iff.mp H
            obtain ⟨t231, A220, H⟩ := H
            replace H : ((num_Text.f kj2 t231 a0_9).bind fun t234 => (some t234)) = some r := H
            have A22 := Aside0.mk A220
            clear A220
            replace H := Option.bind_eq_some_iff.mp H
            obtain ⟨t234, A230, H⟩ := H
            replace H : (some t234) = some r := H
            have A23 := Aside0.mk A230
            clear A230
            obtain rfl := Option.some.inj H
            have hcz24_0 : wc.cell? ⟨gb212, 0, none⟩ = some (.int .i64 a0_0) := (blk_cell BK212.out 0).trans rfl
            have hcz24_1 : wc.cell? ⟨gb212, 1, none⟩ = some (.int .i64 a0_1) := (blk_cell BK212.out 1).trans rfl
            have hcz24_2 : wc.cell? ⟨gb212, 2, none⟩ = some (.int .i64 a0_2) := (blk_cell BK212.out 2).trans rfl
            have hcz24_3 : wc.cell? ⟨gb212, 3, none⟩ = some (.int .u64 a0_3) := (blk_cell BK212.out 3).trans rfl
            have hcz24_4 : wc.cell? ⟨gb212, 4, none⟩ = some (.int .i64 a0_4) := (blk_cell BK212.out 4).trans rfl
            have hcz24_5 : wc.cell? ⟨gb212, 5, none⟩ = some (.int .u64 a0_5) := (blk_cell BK212.out 5).trans rfl
            have hcz24_6 : wc.cell? ⟨gb212, 6, none⟩ = some (.int .i64 a0_6) := (blk_cell BK212.out 6).trans rfl
            have hcz24_7 : wc.cell? ⟨gb212, 7, none⟩ = some (.int .i64 a0_7) := (blk_cell BK212.out 7).trans rfl
            have hcz24_8 : wc.cell? ⟨gb212, 8, none⟩ = some (.string a0_8) := (blk_cell BK212.out 8).trans rfl
            have hcz24_9 : wc.cell? ⟨gb212, 9, none⟩ = some (.string a0_9) := (blk_cell BK212.out 9).trans rfl
            have hcz24_10 : wc.cell? ⟨gb212, 10, none⟩ = some (.bool a0_10) := (blk_cell BK212.out 10).trans rfl
            have hcz24_11 : wc.cell? ⟨gb212, 11, none⟩ = some (.int .i64 a0_11) := (blk_cell BK212.out 11).trans rfl
            have hfz24_0 := blk_frozen BK212.out 0
            have hfz24_1 := blk_frozen BK212.out 1
            have hfz24_2 := blk_frozen BK212.out 2
            have hfz24_3 := blk_frozen BK212.out 3
            have hfz24_4 := blk_frozen BK212.out 4
            have hfz24_5 := blk_frozen BK212.out 5
            have hfz24_6 := blk_frozen BK212.out 6
            have hfz24_7 := blk_frozen BK212.out 7
            have hfz24_8 := blk_frozen BK212.out 8
            have hfz24_9 := blk_frozen BK212.out 9
            have hfz24_10 := blk_frozen BK212.out 10
            have hfz24_11 := blk_frozen BK212.out 11
            obtain ⟨Ao25, co25, eo25⟩ := Kd.R_slice HO_3.out
            subst eo25
            go_wp2_with (first | ((with_reducible refine gate_callee (f := 16) rfl ?_); refine goesL_ (some 33) rfl rfl Try.func16 (by kernel_rfl) rfl #[.slice Ao25 t216.length co25, .int .u64 a0_5] rfl (by (try simp only [List.map_toArray, List.map_cons, List.map_nil]); first | done | rfl | (simp only [List.length_drop, List.length_take]; rfl)) ?_; (with_reducible refine (num_Put.calls kj2 (fun k_ => some k_ = (.slice Ao25 t216.length co25 : Value).ownBlock) (.slice Ao25 t216.length co25) t216 a0_5 t222 w _ ?side1 ?side2 A19.out).mono ?_); (case side1 => repeat (first | (with_reducible first | exact HB.out | apply below_alloc | apply pw_below_drewN | apply below_drew1 | refine below_set ?_ GE212.out) | exact HB.out)); (case side2 => exact Kd.R_tight rfl HO_3.out); rintro e w26 ⟨v223, rfl, ho0, hb, hkp⟩; refine ⟨_, rfl, ?_⟩; have n0_ := Aside0.mk (blk_kept (by (with_reducible repeat (first | refine blk_drewN ?_ _ | refine blk_drew ?_ | refine blk_alloc ?_ _)); exact BK212.out) hkp (fun hs_ => (fun e_ => (Kd.R_ne HO_3.out BK212.out (by decide)) e_) hs_)); have n1_ := Aside0.mk (Kd.R_mono (ok' := fun k_ => True) ho0 (fun k_ hk_ => trivial)); have n2_ := Aside0.mk (hb); clear BK212; clear HB; clear HO_3; have BK212 := n0_; have HO224 := n1_; have HB := n2_; clear n0_ n1_ n2_; (try clear hb); (try clear hkp); (try clear ho0); have hcz27_0 : w26.cell? ⟨gb212, 0, none⟩ = some (.int .i64 a0_0) := (blk_cell BK212.out 0).trans rfl; have hcz27_1 : w26.cell? ⟨gb212, 1, none⟩ = some (.int .i64 a0_1) := (blk_cell BK212.out 1).trans rfl; have hcz27_2 : w26.cell? ⟨gb212, 2, none⟩ = some (.int .i64 a0_2) := (blk_cell BK212.out 2).trans rfl; have hcz27_3 : w26.cell? ⟨gb212, 3, none⟩ = some (.int .u64 a0_3) := (blk_cell BK212.out 3).trans rfl; have hcz27_4 : w26.cell? ⟨gb212, 4, none⟩ = some (.int .i64 a0_4) := (blk_cell BK212.out 4).trans rfl; have hcz27_5 : w26.cell? ⟨gb212, 5, none⟩ = some (.int .u64 a0_5) := (blk_cell BK212.out 5).trans rfl; have hcz27_6 : w26.cell? ⟨gb212, 6, none⟩ = some (.int .i64 a0_6) := (blk_cell BK212.out 6).trans rfl; have hcz27_7 : w26.cell? ⟨gb212, 7, none⟩ = some (.int .i64 a0_7) := (blk_cell BK212.out 7).trans rfl; have hcz27_8 : w26.cell? ⟨gb212, 8, none⟩ = some (.string a0_8) := (blk_cell BK212.out 8).trans rfl; have hcz27_9 : w26.cell? ⟨gb212, 9, none⟩ = some (.string a0_9) := (blk_cell BK212.out 9).trans rfl; have hcz27_10 : w26.cell? ⟨gb212, 10, none⟩ = some (.bool a0_10) := (blk_cell BK212.out 10).trans rfl; have hcz27_11 : w26.cell? ⟨gb212, 11, none⟩ = some (.int .i64 a0_11) := (blk_cell BK212.out 11).trans rfl; have hfz27_0 := blk_frozen BK212.out 0; have hfz27_1 := blk_frozen BK212.out 1; have hfz27_2 := blk_frozen BK212.out 2; have hfz27_3 := blk_frozen BK212.out 3; have hfz27_4 := blk_frozen BK212.out 4; have hfz27_5 := blk_frozen BK212.out 5; have hfz27_6 := blk_frozen BK212.out 6; have hfz27_7 := blk_frozen BK212.out 7; have hfz27_8 := blk_frozen BK212.out 8; have hfz27_9 := blk_frozen BK212.out 9; have hfz27_10 := blk_frozen BK212.out 10; have hfz27_11 := blk_frozen BK212.out 11; obtain ⟨Ao28, co28, eo28⟩ := Kd.R_slice HO224.out; subst eo28) | ((with_reducible refine gate_callee (f := 16) rfl ?_); refine goesL_ (some 38) rfl rfl Try.func16 (by kernel_rfl) rfl #[.slice Ao28 t222.length co28, .int .u64 (IntKind.u64.wrap (a0_6))] rfl (by (try simp only [List.map_toArray, List.map_cons, List.map_nil]); first | done | rfl | (simp only [List.length_drop, List.length_take]; rfl)) ?_; (with_reducible refine (num_Put.calls kj2 (fun k_ => some k_ = (.slice Ao28 t222.length co28 : Value).ownBlock) (.slice Ao28 t222.length co28) t222 (IntKind.u64.wrap (a0_6)) t225 w _ ?side1 ?side2 A20.out).mono ?_); (case side1 => repeat (first | (with_reducible first | exact HB.out | apply below_alloc | apply pw_below_drewN | apply below_drew1 | refine below_set ?_ GE212.out) | exact HB.out)); (case side2 => exact Kd.R_tight rfl HO224.out); rintro e w29 ⟨v226, rfl, ho0, hb, hkp⟩; refine ⟨_, rfl, ?_⟩; have n0_ := Aside0.mk (blk_kept (by (with_reducible repeat (first | refine blk_drewN ?_ _ | refine blk_drew ?_ | refine blk_alloc ?_ _)); exact BK212.out) hkp (fun hs_ => (fun e_ => (Kd.R_ne HO224.out BK212.out (by decide)) e_) hs_)); have n1_ := Aside0.mk (Kd.R_mono (ok' := fun k_ => True) ho0 (fun k_ hk_ => trivial)); have n2_ := Aside0.mk (hb); clear BK212; clear HB; clear HO224; have BK212 := n0_; have HO227 := n1_; have HB := n2_; clear n0_ n1_ n2_; (try clear hb); (try clear hkp); (try clear ho0); have hcz30_0 : w29.cell? ⟨gb212, 0, none⟩ = some (.int .i64 a0_0) := (blk_cell BK212.out 0).trans rfl; have hcz30_1 : w29.cell? ⟨gb212, 1, none⟩ = some (.int .i64 a0_1) := (blk_cell BK212.out 1).trans rfl; have hcz30_2 : w29.cell? ⟨gb212, 2, none⟩ = some (.int .i64 a0_2) := (blk_cell BK212.out 2).trans rfl; have hcz30_3 : w29.cell? ⟨gb212, 3, none⟩ = some (.int .u64 a0_3) := (blk_cell BK212.out 3).trans rfl; have hcz30_4 : w29.cell? ⟨gb212, 4, none⟩ = some (.int .i64 a0_4) := (blk_cell BK212.out 4).trans rfl; have hcz30_5 : w29.cell? ⟨gb212, 5, none⟩ = some (.int .u64 a0_5) := (blk_cell BK212.out 5).trans rfl; have hcz30_6 : w29.cell? ⟨gb212, 6, none⟩ = some (.int .i64 a0_6) := (blk_cell BK212.out 6).trans rfl; have hcz30_7 : w29.cell? ⟨gb212, 7, none⟩ = some (.int .i64 a0_7) := (blk_cell BK212.out 7).trans rfl; have hcz30_8 : w29.cell? ⟨gb212, 8, none⟩ = some (.string a0_8) := (blk_cell BK212.out 8).trans rfl; have hcz30_9 : w29.cell? ⟨gb212, 9, none⟩ = some (.string a0_9) := (blk_cell BK212.out 9).trans rfl; have hcz30_10 : w29.cell? ⟨gb212, 10, none⟩ = some (.bool a0_10) := (blk_cell BK212.out 10).trans rfl; have hcz30_11 : w29.cell? ⟨gb212, 11, none⟩ = some (.int .i64 a0_11) := (blk_cell BK212.out 11).trans rfl; have hfz30_0 := blk_frozen BK212.out 0; have hfz30_1 := blk_frozen BK212.out 1; have hfz30_2 := blk_frozen BK212.out 2; have hfz30_3 := blk_frozen BK212.out 3; have hfz30_4 := blk_frozen BK212.out 4; have hfz30_5 := blk_frozen BK212.out 5; have hfz30_6 := blk_frozen BK212.out 6; have hfz30_7 := blk_frozen BK212.out 7; have hfz30_8 := blk_frozen BK212.out 8; have hfz30_9 := blk_frozen BK212.out 9; have hfz30_10 := blk_frozen BK212.out 10; have hfz30_11 := blk_frozen BK212.out 11) | ((with_reducible refine gate_builtin (b := .append) (xs := #[.tmp 39, .tmp 43]) rfl ?_); at_builtin; refine Kd.R_append (Kd.int .u8) (w0 := w) w.heap.size rfl (.tmp 39) (.tmp 43) 24 5 (.int .u8 0) 1 rfl Try.underlying24 info5 rfl (by decide) (by omega) v226 t225 ((a0_7) % 256) [.int .u8 ((a0_7) % 256)] (fun _ => True) (fun _ => False) rfl rfl ?aP (fun _ hk => hk.elim) ?aF ?aO ?aB ?aS ?aL ?_; (case aP => exact rfl); (case aB => exact (by repeat (first | (with_reducible first | exact HB.out | apply below_alloc | apply pw_below_drewN | apply below_drew1 | refine below_set ?_ GE212.out) | exact HB.out))); (case aF => exact (fun _ _ => trivial)); (case aO => exact (by (with_reducible repeat (first | apply Kd.R_alloc | apply Kd.R_drewN | apply Kd.R_drew)); exact HO227.out)); (case aS => exact (below_size (by repeat (first | (with_reducible first | exact HB.out | apply below_alloc | apply pw_below_drewN | apply below_drew1 | refine below_set ?_ GE212.out) | exact HB.out)))); (case aL => have := LMc21.out; omega); intro v229 w31 ho hb hg hat; rw [← Ny228.out] at ho; have n0_ := Aside0.mk (blk_grown (g := gb212) (o := .cells #[.int .i64 a0_0, .int .i64 a0_1, .int .i64 a0_2, .int .u64 a0_3, .int .i64 a0_4, .int .u64 a0_5, .int .i64 a0_6, .int .i64 a0_7, .string a0_8, .string a0_9, .bool a0_10, .int .i64 a0_11] 47 (0, 0)) (by (with_reducible repeat (first | refine blk_drewN ?_ _ | refine blk_drew ?_ | refine blk_alloc ?_ _)); exact BK212.out) hg (Kd.R_ne HO227.out BK212.out (by decide))); have n1_ := Aside0.mk (hb); have n2_ := Aside0.mk (ho); clear BK212; clear HB; clear HO227; have BK212 := n0_; have HB := n1_; have HO230 := n2_; clear n0_ n1_ n2_; clear ho hb hg hat; have hcz32_0 : w31.cell? ⟨gb212, 0, none⟩ = some (.int .i64 a0_0) := (blk_cell BK212.out 0).trans rfl; have hcz32_1 : w31.cell? ⟨gb212, 1, none⟩ = some (.int .i64 a0_1) := (blk_cell BK212.out 1).trans rfl; have hcz32_2 : w31.cell? ⟨gb212, 2, none⟩ = some (.int .i64 a0_2) := (blk_cell BK212.out 2).trans rfl; have hcz32_3 : w31.cell? ⟨gb212, 3, none⟩ = some (.int .u64 a0_3) := (blk_cell BK212.out 3).trans rfl; have hcz32_4 : w31.cell? ⟨gb212, 4, none⟩ = some (.int .i64 a0_4) := (blk_cell BK212.out 4).trans rfl; have hcz32_5 : w31.cell? ⟨gb212, 5, none⟩ = some (.int .u64 a0_5) := (blk_cell BK212.out 5).trans rfl; have hcz32_6 : w31.cell? ⟨gb212, 6, none⟩ = some (.int .i64 a0_6) := (blk_cell BK212.out 6).trans rfl; have hcz32_7 : w31.cell? ⟨gb212, 7, none⟩ = some (.int .i64 a0_7) := (blk_cell BK212.out 7).trans rfl; have hcz32_8 : w31.cell? ⟨gb212, 8, none⟩ = some (.string a0_8) := (blk_cell BK212.out 8).trans rfl; have hcz32_9 : w31.cell? ⟨gb212, 9, none⟩ = some (.string a0_9) := (blk_cell BK212.out 9).trans rfl; have hcz32_10 : w31.cell? ⟨gb212, 10, none⟩ = some (.bool a0_10) := (blk_cell BK212.out 10).trans rfl; have hcz32_11 : w31.cell? ⟨gb212, 11, none⟩ = some (.int .i64 a0_11) := (blk_cell BK212.out 11).trans rfl; have hfz32_0 := blk_frozen BK212.out 0; have hfz32_1 := blk_frozen BK212.out 1; have hfz32_2 := blk_frozen BK212.out 2; have hfz32_3 := blk_frozen BK212.out 3; have hfz32_4 := blk_frozen BK212.out 4; have hfz32_5 := blk_frozen BK212.out 5; have hfz32_6 := blk_frozen BK212.out 6; have hfz32_7 := blk_frozen BK212.out 7; have hfz32_8 := blk_frozen BK212.out 8; have hfz32_9 := blk_frozen BK212.out 9; have hfz32_10 := blk_frozen BK212.out 10; have hfz32_11 := blk_frozen BK212.out 11; obtain ⟨Ao33, co33, eo33⟩ := Kd.R_slice HO230.out; subst eo33) | ((with_reducible refine gate_callee (f := 18) rfl ?_); refine goesL_ (some 48) rfl rfl Try.func18 (by kernel_rfl) rfl #[.slice Ao33 y228.length co33, .string a0_8] rfl (by (try simp only [List.map_toArray, List.map_cons, List.map_nil]); first | done | rfl | (simp only [List.length_drop, List.length_take]; rfl)) ?_; (with_reducible refine (num_Text.calls kj2 (fun k_ => some k_ = (.slice Ao33 y228.length co33 : Value).ownBlock) (.slice Ao33 y228.length co33) y228 a0_8 t231 w _ ?side1 ?side2 A22.out).mono ?_); (case side1 => repeat (first | (with_reducible first | exact HB.out | apply below_alloc | apply pw_below_drewN | apply below_drew1 | refine below_set ?_ GE212.out) | exact HB.out)); (case side2 => exact Kd.R_tight rfl HO230.out); rintro e w34 ⟨v232, rfl, ho0, hb, hkp⟩; refine ⟨_, rfl, ?_⟩; have n0_ := Aside0.mk (blk_kept (by (with_reducible repeat (first | refine blk_drewN ?_ _ | refine blk_drew ?_ | refine blk_alloc ?_ _)); exact BK212.out) hkp (fun hs_ => (fun e_ => (Kd.R_ne HO230.out BK212.out (by decide)) e_) hs_)); have n1_ := Aside0.mk (Kd.R_mono (ok' := fun k_ => True) ho0 (fun k_ hk_ => trivial)); have n2_ := Aside0.mk (hb); clear BK212; clear HB; clear HO230; have BK212 := n0_; have HO233 := n1_; have HB := n2_; clear n0_ n1_ n2_; (try clear hb); (try clear hkp); (try clear ho0); have hcz35_0 : w34.cell? ⟨gb212, 0, none⟩ = some (.int .i64 a0_0) := (blk_cell BK212.out 0).trans rfl; have hcz35_1 : w34.cell? ⟨gb212, 1, none⟩ = some (.int .i64 a0_1) := (blk_cell BK212.out 1).trans rfl; have hcz35_2 : w34.cell? ⟨gb212, 2, none⟩ = some (.int .i64 a0_2) := (blk_cell BK212.out 2).trans rfl; have hcz35_3 : w34.cell? ⟨gb212, 3, none⟩ = some (.int .u64 a0_3) := (blk_cell BK212.out 3).trans rfl; have hcz35_4 : w34.cell? ⟨gb212, 4, none⟩ = some (.int .i64 a0_4) := (blk_cell BK212.out 4).trans rfl; have hcz35_5 : w34.cell? ⟨gb212, 5, none⟩ = some (.int .u64 a0_5) := (blk_cell BK212.out 5).trans rfl; have hcz35_6 : w34.cell? ⟨gb212, 6, none⟩ = some (.int .i64 a0_6) := (blk_cell BK212.out 6).trans rfl; have hcz35_7 : w34.cell? ⟨gb212, 7, none⟩ = some (.int .i64 a0_7) := (blk_cell BK212.out 7).trans rfl; have hcz35_8 : w34.cell? ⟨gb212, 8, none⟩ = some (.string a0_8) := (blk_cell BK212.out 8).trans rfl; have hcz35_9 : w34.cell? ⟨gb212, 9, none⟩ = some (.string a0_9) := (blk_cell BK212.out 9).trans rfl; have hcz35_10 : w34.cell? ⟨gb212, 10, none⟩ = some (.bool a0_10) := (blk_cell BK212.out 10).trans rfl; have hcz35_11 : w34.cell? ⟨gb212, 11, none⟩ = some (.int .i64 a0_11) := (blk_cell BK212.out 11).trans rfl; have hfz35_0 := blk_frozen BK212.out 0; have hfz35_1 := blk_frozen BK212.out 1; have hfz35_2 := blk_frozen BK212.out 2; have hfz35_3 := blk_frozen BK212.out 3; have hfz35_4 := blk_frozen BK212.out 4; have hfz35_5 := blk_frozen BK212.out 5; have hfz35_6 := blk_frozen BK212.out 6; have hfz35_7 := blk_frozen BK212.out 7; have hfz35_8 := blk_frozen BK212.out 8; have hfz35_9 := blk_frozen BK212.out 9; have hfz35_10 := blk_frozen BK212.out 10; have hfz35_11 := blk_frozen BK212.out 11; obtain ⟨Ao36, co36, eo36⟩ := Kd.R_slice HO233.out; subst eo36) | ((with_reducible refine gate_callee (f := 18) rfl ?_); refine goesL_ (some 52) rfl rfl Try.func18 (by kernel_rfl) rfl #[.slice Ao36 t231.length co36, .string a0_9] rfl (by (try simp only [List.map_toArray, List.map_cons, List.map_nil]); first | done | rfl | (simp only [List.length_drop, List.length_take]; rfl)) ?_; (with_reducible refine (num_Text.calls kj2 (fun k_ => some k_ = (.slice Ao36 t231.length co36 : Value).ownBlock) (.slice Ao36 t231.length co36) t231 a0_9 t234 w _ ?side1 ?side2 A23.out).mono ?_); (case side1 => repeat (first | (with_reducible first | exact HB.out | apply below_alloc | apply pw_below_drewN | apply below_drew1 | refine below_set ?_ GE212.out) | exact HB.out)); (case side2 => exact Kd.R_tight rfl HO233.out); rintro e w37 ⟨v235, rfl, ho0, hb, hkp⟩; refine ⟨_, rfl, ?_⟩; have n0_ := Aside0.mk (blk_kept (by (with_reducible repeat (first | refine blk_drewN ?_ _ | refine blk_drew ?_ | refine blk_alloc ?_ _)); exact BK212.out) hkp (fun hs_ => (fun e_ => (Kd.R_ne HO233.out BK212.out (by decide)) e_) hs_)); have n1_ := Aside0.mk (Kd.R_mono (ok' := fun k_ => True) ho0 (fun k_ hk_ => trivial)); have n2_ := Aside0.mk (hb); clear BK212; clear HB; clear HO233; have BK212 := n0_; have HO236 := n1_; have HB := n2_; clear n0_ n1_ n2_; (try clear hb); (try clear hkp); (try clear ho0)))
            go_ret
            exact ⟨_, by first | rfl | (simp [errW_none, errW_some] <;> rfl) | (simp [*, errW_none, errW_some] <;> rfl), by (with_reducible repeat (first | apply Kd.R_alloc | apply Kd.R_drewN | apply Kd.R_drew)); exact HO236.out, by repeat (first | (with_reducible first | exact HB.out | apply below_alloc | apply pw_below_drewN | apply below_drew1 | refine below_set ?_ GE212.out) | exact HB.out)⟩
          · rw [if_neg c21] at H
            exact absurd H (by simp)
        · rw [if_neg c18] at H
          have c18b0 : (a0_0 == 3) = false := beq_eq_false_iff_ne.mpr c18
          have c18b1 : (a0_0 != 3) = true := bne_iff_ne.mpr c18
          by_cases c38 : a0_0 = 4
          · rw [if_pos c38] at H
            have c38b0 : (a0_0 == 4) = true := beq_iff_eq.mpr c38
            have c38b1 : (a0_0 != 4) = false := bne_eq_false_iff_eq.mpr c38
            clear c38
            replace H := Option.bind_eq_some_iff.mp H
            obtain ⟨t237, A390, H⟩ := H
            replace H : ((some (([(a0_11) % 256, x4_2] : List Int) : List Int)).bind fun y240 => (if t237.length + y240.length < 140737488355328 then ((num_Text.f kj2 (t237 ++ y240) a0_9).bind fun t246 => (some t246)) else (none))) = some r := H
            have A39 := Aside0.mk A390
            clear A390
            obtain ⟨y240, hy240⟩ : ∃ y_ : List Int, y_ = (([(a0_11) % 256, x4_2] : List Int)) := ⟨_, rfl⟩
            replace H : (if t237.length + y240.length < 140737488355328 then ((num_Text.f kj2 (t237 ++ y240) a0_9).bind fun t246 => (some t246)) else (none)) = some r := by first | (rw [hy240]; with_reducible exact H) | (have H2_ := (Option.bind_some _ _).symm.trans H; rw [hy240]; with_reducible exact H2_) | (have H2_ := (Option.bind_some _ _).symm.trans H; with_reducible exact H2_) | with_reducible exact H | (rw [hy240]; exact H) | exact H
            have Ny240 := Aside0.mk hy240
            clear hy240
            by_cases c40 : t237.length + y240.length < 140737488355328
            · rw [if_pos c40] at H
              have LMc40 := Aside0.mk c40
              clear c40
              obtain ⟨y243, hy243⟩ : ∃ y_ : List Int, y_ = (t237 ++ y240) := ⟨_, rfl⟩
              replace H : ((num_Text.f kj2 y243 a0_9).bind fun t246 => (some t246)) = some r := by first | (rw [hy243]; with_reducible exact H) | (have H2_ := (Option.bind_some _ _).symm.trans H; rw [hy243]; with_reducible exact H2_) | (have H2_ := (Option.bind_some _ _).symm.trans H; with_reducible exact H2_) | with_reducible exact H | (rw [hy243]; exact H) | exact H
              have Ny243 := Aside0.mk hy243
              clear hy243
              replace H := Option.bind_eq_some_iff.mp H
              obtain ⟨t246, A410, H⟩ := H
              replace H : (some t246) = some r := H
              have A41 := Aside0.mk A410
              clear A410
              obtain rfl := Option.some.inj H
              have hcz42_0 : wc.cell? ⟨gb212, 0, none⟩ = some (.int .i64 a0_0) := (blk_cell BK212.out 0).trans rfl
              have hcz42_1 : wc.cell? ⟨gb212, 1, none⟩ = some (.int .i64 a0_1) := (blk_cell BK212.out 1).trans rfl
              have hcz42_2 : wc.cell? ⟨gb212, 2, none⟩ = some (.int .i64 a0_2) := (blk_cell BK212.out 2).trans rfl
              have hcz42_3 : wc.cell? ⟨gb212, 3, none⟩ = some (.int .u64 a0_3) := (blk_cell BK212.out 3).trans rfl
              have hcz42_4 : wc.cell? ⟨gb212, 4, none⟩ = some (.int .i64 a0_4) := (blk_cell BK212.out 4).trans rfl
              have hcz42_5 : wc.cell? ⟨gb212, 5, none⟩ = some (.int .u64 a0_5) := (blk_cell BK212.out 5).trans rfl
              have hcz42_6 : wc.cell? ⟨gb212, 6, none⟩ = some (.int .i64 a0_6) := (blk_cell BK212.out 6).trans rfl
              have hcz42_7 : wc.cell? ⟨gb212, 7, none⟩ = some (.int .i64 a0_7) := (blk_cell BK212.out 7).trans rfl
              have hcz42_8 : wc.cell? ⟨gb212, 8, none⟩ = some (.string a0_8) := (blk_cell BK212.out 8).trans rfl
              have hcz42_9 : wc.cell? ⟨gb212, 9, none⟩ = some (.string a0_9) := (blk_cell BK212.out 9).trans rfl
              have hcz42_10 : wc.cell? ⟨gb212, 10, none⟩ = some (.bool a0_10) := (blk_cell BK212.out 10).trans rfl
              have hcz42_11 : wc.cell? ⟨gb212, 11, none⟩ = some (.int .i64 a0_11) := (blk_cell BK212.out 11).trans rfl
              have hfz42_0 := blk_frozen BK212.out 0
              have hfz42_1 := blk_frozen BK212.out 1
              have hfz42_2 := blk_frozen BK212.out 2
              have hfz42_3 := blk_frozen BK212.out 3
              have hfz42_4 := blk_frozen BK212.out 4
              have hfz42_5 := blk_frozen BK212.out 5
              have hfz42_6 := blk_frozen BK212.out 6
              have hfz42_7 := blk_frozen BK212.out 7
              have hfz42_8 := blk_frozen BK212.out 8
              have hfz42_9 := blk_frozen BK212.out 9
              have hfz42_10 := blk_frozen BK212.out 10
              have hfz42_11 := blk_frozen BK212.out 11
              obtain ⟨Ao43, co43, eo43⟩ := Kd.R_slice HO_3.out
              subst eo43
              go_wp2_with (first | ((with_reducible refine gate_callee (f := 16) rfl ?_); refine goesL_ (some 59) rfl rfl Try.func16 (by kernel_rfl) rfl #[.slice Ao43 t216.length co43, .int .u64 (IntKind.u64.wrap (a0_6))] rfl (by (try simp only [List.map_toArray, List.map_cons, List.map_nil]); first | done | rfl | (simp only [List.length_drop, List.length_take]; rfl)) ?_; (with_reducible refine (num_Put.calls kj2 (fun k_ => some k_ = (.slice Ao43 t216.length co43 : Value).ownBlock) (.slice Ao43 t216.length co43) t216 (IntKind.u64.wrap (a0_6)) t237 w _ ?side1 ?side2 A39.out).mono ?_); (case side1 => repeat (first | (with_reducible first | exact HB.out | apply below_alloc | apply pw_below_drewN | apply below_drew1 | refine below_set ?_ GE212.out) | exact HB.out)); (case side2 => exact Kd.R_tight rfl HO_3.out); rintro e w44 ⟨v238, rfl, ho0, hb, hkp⟩; refine ⟨_, rfl, ?_⟩; have n0_ := Aside0.mk (blk_kept (by (with_reducible repeat (first | refine blk_drewN ?_ _ | refine blk_drew ?_ | refine blk_alloc ?_ _)); exact BK212.out) hkp (fun hs_ => (fun e_ => (Kd.R_ne HO_3.out BK212.out (by decide)) e_) hs_)); have n1_ := Aside0.mk (Kd.R_mono (ok' := fun k_ => True) ho0 (fun k_ hk_ => trivial)); have n2_ := Aside0.mk (hb); clear BK212; clear HB; clear HO_3; have BK212 := n0_; have HO239 := n1_; have HB := n2_; clear n0_ n1_ n2_; (try clear hb); (try clear hkp); (try clear ho0); have hcz45_0 : w44.cell? ⟨gb212, 0, none⟩ = some (.int .i64 a0_0) := (blk_cell BK212.out 0).trans rfl; have hcz45_1 : w44.cell? ⟨gb212, 1, none⟩ = some (.int .i64 a0_1) := (blk_cell BK212.out 1).trans rfl; have hcz45_2 : w44.cell? ⟨gb212, 2, none⟩ = some (.int .i64 a0_2) := (blk_cell BK212.out 2).trans rfl; have hcz45_3 : w44.cell? ⟨gb212, 3, none⟩ = some (.int .u64 a0_3) := (blk_cell BK212.out 3).trans rfl; have hcz45_4 : w44.cell? ⟨gb212, 4, none⟩ = some (.int .i64 a0_4) := (blk_cell BK212.out 4).trans rfl; have hcz45_5 : w44.cell? ⟨gb212, 5, none⟩ = some (.int .u64 a0_5) := (blk_cell BK212.out 5).trans rfl; have hcz45_6 : w44.cell? ⟨gb212, 6, none⟩ = some (.int .i64 a0_6) := (blk_cell BK212.out 6).trans rfl; have hcz45_7 : w44.cell? ⟨gb212, 7, none⟩ = some (.int .i64 a0_7) := (blk_cell BK212.out 7).trans rfl; have hcz45_8 : w44.cell? ⟨gb212, 8, none⟩ = some (.string a0_8) := (blk_cell BK212.out 8).trans rfl; have hcz45_9 : w44.cell? ⟨gb212, 9, none⟩ = some (.string a0_9) := (blk_cell BK212.out 9).trans rfl; have hcz45_10 : w44.cell? ⟨gb212, 10, none⟩ = some (.bool a0_10) := (blk_cell BK212.out 10).trans rfl; have hcz45_11 : w44.cell? ⟨gb212, 11, none⟩ = some (.int .i64 a0_11) := (blk_cell BK212.out 11).trans rfl; have hfz45_0 := blk_frozen BK212.out 0; have hfz45_1 := blk_frozen BK212.out 1; have hfz45_2 := blk_frozen BK212.out 2; have hfz45_3 := blk_frozen BK212.out 3; have hfz45_4 := blk_frozen BK212.out 4; have hfz45_5 := blk_frozen BK212.out 5; have hfz45_6 := blk_frozen BK212.out 6; have hfz45_7 := blk_frozen BK212.out 7; have hfz45_8 := blk_frozen BK212.out 8; have hfz45_9 := blk_frozen BK212.out 9; have hfz45_10 := blk_frozen BK212.out 10; have hfz45_11 := blk_frozen BK212.out 11) | ((with_reducible refine gate_dst (N := 65) rfl ?_); refine Kd.R_lit (Kd.int .u8) _ 5 ?hg (N := 65) ?hd (xs := ([(a0_11) % 256, x4_2] : List Int)) (inner := [.int .u8 ((a0_11) % 256), .int .u8 x4_2]) (ok := fun _ => True) (okp := fun _ => True) ?hr ?hp (fun _ hk => hk) trivial (Below.refl _ _) (Nat.le_refl _) (by simp) ?_; (case hd => rfl); (case hg => rfl); (case hr => first | (go_simp; done) | (go_simp; rfl)); (case hp => exact (Reps.one (show Kd.M (Kd.int .u8) _ _ _ ((a0_11) % 256) [.int .u8 ((a0_11) % 256)] from rfl) (Reps.one (show Kd.M (Kd.int .u8) _ _ _ x4_2 [.int .u8 x4_2] from rfl) (Reps.none _ _)))); intro v241 w46 ho47 hb hg_ hnew_; clear hg_ hnew_; (first | rw [← Ny240.out] at ho47 | (simp only [Int.reduceToNat] at ho47; rw [← Ny240.out] at ho47)); have n0_ := Aside0.mk (Kd.R_elder' (by (with_reducible repeat (first | apply Kd.R_alloc | apply Kd.R_drewN | apply Kd.R_drew)); exact HO239.out) (Kd.R_base ho47) hb); have n1_ := Aside0.mk (Kd.R_lower (Kd.R_new' ho47 (Kd.R_lt (by (with_reducible repeat (first | apply Kd.R_alloc | apply Kd.R_drewN | apply Kd.R_drew)); exact HO239.out))) (below_size (by repeat (first | (with_reducible first | exact HB.out | apply below_alloc | apply pw_below_drewN | apply below_drew1 | refine below_set ?_ GE212.out) | exact HB.out)))); have n2_ := Aside0.mk (blk_below (g := gb212) (o := .cells #[.int .i64 a0_0, .int .i64 a0_1, .int .i64 a0_2, .int .u64 a0_3, .int .i64 a0_4, .int .u64 a0_5, .int .i64 a0_6, .int .i64 a0_7, .string a0_8, .string a0_9, .bool a0_10, .int .i64 a0_11] 47 (0, 0)) (by (with_reducible repeat (first | refine blk_drewN ?_ _ | refine blk_drew ?_ | refine blk_alloc ?_ _)); exact BK212.out) hb); have n3_ := Aside0.mk (below_step (by repeat (first | (with_reducible first | exact HB.out | apply below_alloc | apply pw_below_drewN | apply below_drew1 | refine below_set ?_ GE212.out) | exact HB.out)) hb); clear HO239; clear BK212; clear HB; have HO239 := n0_; have HO242 := n1_; have BK212 := n2_; have HB := n3_; clear n0_ n1_ n2_ n3_; clear hb ho47; obtain ⟨Ao49, co49, eo49⟩ := Kd.R_slice HO242.out; subst eo49) | ((with_reducible refine gate_builtin (b := .append) (xs := #[.tmp 60, .tmp 65]) rfl ?_); at_builtin; refine Kd.R_append_rows (Kd.int .u8) (w0 := w) w.heap.size rfl (.tmp 60) (.tmp 65) 24 5 (.int .u8 0) 1 rfl Try.underlying24 info5 rfl (by decide) (by omega) v238 t237 y240 _ _ _ (fun k_ => some k_ ≠ (.slice Ao49 y240.length co49 : Value).ownBlock) (fun _ => False) rfl rfl ?aO ?aR (fun _ _ h => h) (fun _ h => h.elim) ?aF ?aB ?aS ?aL ?_; (case aR => repeat (first | exact (Kd.R_reads' HO242.out).2.2 | (with_reducible refine Kd.C_alloc ?_ _) | (with_reducible refine Kd.C_drewN ?_ _) | (with_reducible refine Kd.C_drew ?_))); (case aB => exact (by repeat (first | (with_reducible first | exact HB.out | apply below_alloc | apply pw_below_drewN | apply below_drew1 | refine below_set ?_ GE212.out) | exact HB.out))); (case aF => exact (fun k_ hk => Kd.fresh' (Kd.R_lt (by (with_reducible repeat (first | apply Kd.R_alloc | apply Kd.R_drewN | apply Kd.R_drew)); exact HO242.out)) k_ hk)); (case aO => exact (by (with_reducible repeat (first | apply Kd.R_alloc | apply Kd.R_drewN | apply Kd.R_drew)); exact Kd.R_mono HO239.out (fun _ hk => hk.2))); (case aS => exact (below_size (by repeat (first | (with_reducible first | exact HB.out | apply below_alloc | apply pw_below_drewN | apply below_drew1 | refine below_set ?_ GE212.out) | exact HB.out)))); (case aL => have := LMc40.out; omega); intro v244 w48 ho hb hg hat; rw [← Ny243.out] at ho; have n0_ := Aside0.mk (blk_grown (g := gb212) (o := .cells #[.int .i64 a0_0, .int .i64 a0_1, .int .i64 a0_2, .int .u64 a0_3, .int .i64 a0_4, .int .u64 a0_5, .int .i64 a0_6, .int .i64 a0_7, .string a0_8, .string a0_9, .bool a0_10, .int .i64 a0_11] 47 (0, 0)) (by (with_reducible repeat (first | refine blk_drewN ?_ _ | refine blk_drew ?_ | refine blk_alloc ?_ _)); exact BK212.out) hg (Kd.R_ne HO239.out BK212.out (by decide))); have n1_ := Aside0.mk (Kd.R_after (ok := (fun _ => True)) (by (with_reducible repeat (first | apply Kd.R_alloc | apply Kd.R_drewN | apply Kd.R_drew)); exact HO242.out) hg hat); have n2_ := Aside0.mk (hb); have n3_ := Aside0.mk (ho); clear BK212; clear HO242; clear HB; clear HO239; have BK212 := n0_; have HO242 := n1_; have HB := n2_; have HO245 := n3_; clear n0_ n1_ n2_ n3_; clear ho hb hg hat; have hcz50_0 : w48.cell? ⟨gb212, 0, none⟩ = some (.int .i64 a0_0) := (blk_cell BK212.out 0).trans rfl; have hcz50_1 : w48.cell? ⟨gb212, 1, none⟩ = some (.int .i64 a0_1) := (blk_cell BK212.out 1).trans rfl; have hcz50_2 : w48.cell? ⟨gb212, 2, none⟩ = some (.int .i64 a0_2) := (blk_cell BK212.out 2).trans rfl; have hcz50_3 : w48.cell? ⟨gb212, 3, none⟩ = some (.int .u64 a0_3) := (blk_cell BK212.out 3).trans rfl; have hcz50_4 : w48.cell? ⟨gb212, 4, none⟩ = some (.int .i64 a0_4) := (blk_cell BK212.out 4).trans rfl; have hcz50_5 : w48.cell? ⟨gb212, 5, none⟩ = some (.int .u64 a0_5) := (blk_cell BK212.out 5).trans rfl; have hcz50_6 : w48.cell? ⟨gb212, 6, none⟩ = some (.int .i64 a0_6) := (blk_cell BK212.out 6).trans rfl; have hcz50_7 : w48.cell? ⟨gb212, 7, none⟩ = some (.int .i64 a0_7) := (blk_cell BK212.out 7).trans rfl; have hcz50_8 : w48.cell? ⟨gb212, 8, none⟩ = some (.string a0_8) := (blk_cell BK212.out 8).trans rfl; have hcz50_9 : w48.cell? ⟨gb212, 9, none⟩ = some (.string a0_9) := (blk_cell BK212.out 9).trans rfl; have hcz50_10 : w48.cell? ⟨gb212, 10, none⟩ = some (.bool a0_10) := (blk_cell BK212.out 10).trans rfl; have hcz50_11 : w48.cell? ⟨gb212, 11, none⟩ = some (.int .i64 a0_11) := (blk_cell BK212.out 11).trans rfl; have hfz50_0 := blk_frozen BK212.out 0; have hfz50_1 := blk_frozen BK212.out 1; have hfz50_2 := blk_frozen BK212.out 2; have hfz50_3 := blk_frozen BK212.out 3; have hfz50_4 := blk_frozen BK212.out 4; have hfz50_5 := blk_frozen BK212.out 5; have hfz50_6 := blk_frozen BK212.out 6; have hfz50_7 := blk_frozen BK212.out 7; have hfz50_8 := blk_frozen BK212.out 8; have hfz50_9 := blk_frozen BK212.out 9; have hfz50_10 := blk_frozen BK212.out 10; have hfz50_11 := blk_frozen BK212.out 11; obtain ⟨Ao51, co51, eo51⟩ := Kd.R_slice HO245.out; subst eo51) | ((with_reducible refine gate_callee (f := 18) rfl ?_); refine goesL_ (some 70) rfl rfl Try.func18 (by kernel_rfl) rfl #[.slice Ao51 y243.length co51, .string a0_9] rfl (by (try simp only [List.map_toArray, List.map_cons, List.map_nil]); first | done | rfl | (simp only [List.length_drop, List.length_take]; rfl)) ?_; (with_reducible refine (num_Text.calls kj2 (fun k_ => some k_ = (.slice Ao51 y243.length co51 : Value).ownBlock) (.slice Ao51 y243.length co51) y243 a0_9 t246 w _ ?side1 ?side2 A41.out).mono ?_); (case side1 => repeat (first | (with_reducible first | exact HB.out | apply below_alloc | apply pw_below_drewN | apply below_drew1 | refine below_set ?_ GE212.out) | exact HB.out)); (case side2 => exact Kd.R_tight rfl HO245.out); rintro e w52 ⟨v247, rfl, ho0, hb, hkp⟩; refine ⟨_, rfl, ?_⟩; have n0_ := Aside0.mk (blk_kept (by (with_reducible repeat (first | refine blk_drewN ?_ _ | refine blk_drew ?_ | refine blk_alloc ?_ _)); exact BK212.out) hkp (fun hs_ => (fun e_ => (Kd.R_ne HO245.out BK212.out (by decide)) e_) hs_)); have n1_ := Aside0.mk (Kd.R_mono (ok' := fun k_ => some k_ ≠ (v247 : Value).ownBlock) (Kd.R_keptB (HO242.out) hkp (fun k_ hk_ hs_ => (hk_.2) hs_)) (fun k_ hk_ => fun e_ => Or.elim (ho0.1 k_ e_.symm) (fun hs_ => hk_.2.1 hs_) (fun hn_ => Nat.not_le.2 hk_.2.2 hn_))); have n2_ := Aside0.mk (Kd.R_mono (ok' := fun k_ => some k_ ≠ (.slice Ao49 y240.length co49 : Value).ownBlock) ho0 (fun k_ hk_ => Or.elim hk_ (fun hs_ => fun e_ => (((HO242.out).1 k_ e_.symm).2) hs_) (fun hn_ => (Kd.fresh' (Kd.R_lt (by (with_reducible repeat (first | apply Kd.R_alloc | apply Kd.R_drewN | apply Kd.R_drew)); exact HO242.out)) k_ hn_)))); have n3_ := Aside0.mk (hb); clear BK212; clear HO242; clear HB; clear HO245; have BK212 := n0_; have HO242 := n1_; have HO248 := n2_; have HB := n3_; clear n0_ n1_ n2_ n3_; (try clear hb); (try clear hkp); (try clear ho0)))
              go_ret
              exact ⟨_, by first | rfl | (simp [errW_none, errW_some] <;> rfl) | (simp [*, errW_none, errW_some] <;> rfl), by (with_reducible repeat (first | apply Kd.R_alloc | apply Kd.R_drewN | apply Kd.R_drew)); exact Kd.R_mono HO248.out (fun _ hk => trivial), by repeat (first | (with_reducible first | exact HB.out | apply below_alloc | apply pw_below_drewN | apply below_drew1 | refine below_set ?_ GE212.out) | exact HB.out)⟩
            · rw [if_neg c40] at H
              exact absurd H (by simp)
          · rw [if_neg c38] at H
            have c38b0 : (a0_0 == 4) = false := beq_eq_false_iff_ne.mpr c38
            have c38b1 : (a0_0 != 4) = true := bne_iff_ne.mpr c38
            by_cases c53 : a0_0 = 5
            · rw [if_pos c53] at H
              have c53b0 : (a0_0 == 5) = true := beq_iff_eq.mpr c53
              have c53b1 : (a0_0 != 5) = false := bne_eq_false_iff_eq.mpr c53
              clear c53
              replace H := Option.bind_eq_some_iff.mp H
              obtain ⟨t249, A540, H⟩ := H
              replace H : ((num_Put.f kj2 t249 (IntKind.u64.wrap (a0_6))).bind fun t252 => (some t252)) = some r := H
              have A54 := Aside0.mk A540
              clear A540
              replace H := Option.bind_eq_some_iff.mp H
              obtain ⟨t252, A550, H⟩ := H
              replace H : (some t252) = some r := H
              have A55 := Aside0.mk A550
              clear A550
              obtain rfl := Option.some.inj H
              have hcz56_0 : wc.cell? ⟨gb212, 0, none⟩ = some (.int .i64 a0_0) := (blk_cell BK212.out 0).trans rfl
              have hcz56_1 : wc.cell? ⟨gb212, 1, none⟩ = some (.int .i64 a0_1) := (blk_cell BK212.out 1).trans rfl
              have hcz56_2 : wc.cell? ⟨gb212, 2, none⟩ = some (.int .i64 a0_2) := (blk_cell BK212.out 2).trans rfl
              have hcz56_3 : wc.cell? ⟨gb212, 3, none⟩ = some (.int .u64 a0_3) := (blk_cell BK212.out 3).trans rfl
              have hcz56_4 : wc.cell? ⟨gb212, 4, none⟩ = some (.int .i64 a0_4) := (blk_cell BK212.out 4).trans rfl
              have hcz56_5 : wc.cell? ⟨gb212, 5, none⟩ = some (.int .u64 a0_5) := (blk_cell BK212.out 5).trans rfl
              have hcz56_6 : wc.cell? ⟨gb212, 6, none⟩ = some (.int .i64 a0_6) := (blk_cell BK212.out 6).trans rfl
              have hcz56_7 : wc.cell? ⟨gb212, 7, none⟩ = some (.int .i64 a0_7) := (blk_cell BK212.out 7).trans rfl
              have hcz56_8 : wc.cell? ⟨gb212, 8, none⟩ = some (.string a0_8) := (blk_cell BK212.out 8).trans rfl
              have hcz56_9 : wc.cell? ⟨gb212, 9, none⟩ = some (.string a0_9) := (blk_cell BK212.out 9).trans rfl
              have hcz56_10 : wc.cell? ⟨gb212, 10, none⟩ = some (.bool a0_10) := (blk_cell BK212.out 10).trans rfl
              have hcz56_11 : wc.cell? ⟨gb212, 11, none⟩ = some (.int .i64 a0_11) := (blk_cell BK212.out 11).trans rfl
              have hfz56_0 := blk_frozen BK212.out 0
              have hfz56_1 := blk_frozen BK212.out 1
              have hfz56_2 := blk_frozen BK212.out 2
              have hfz56_3 := blk_frozen BK212.out 3
              have hfz56_4 := blk_frozen BK212.out 4
              have hfz56_5 := blk_frozen BK212.out 5
              have hfz56_6 := blk_frozen BK212.out 6
              have hfz56_7 := blk_frozen BK212.out 7
              have hfz56_8 := blk_frozen BK212.out 8
              have hfz56_9 := blk_frozen BK212.out 9
              have hfz56_10 := blk_frozen BK212.out 10
              have hfz56_11 := blk_frozen BK212.out 11
              obtain ⟨Ao57, co57, eo57⟩ := Kd.R_slice HO_3.out
              subst eo57
              go_wp2_with (first | ((with_reducible refine gate_callee (f := 16) rfl ?_); refine goesL_ (some 76) rfl rfl Try.func16 (by kernel_rfl) rfl #[.slice Ao57 t216.length co57, .int .u64 a0_5] rfl (by (try simp only [List.map_toArray, List.map_cons, List.map_nil]); first | done | rfl | (simp only [List.length_drop, List.length_take]; rfl)) ?_; (with_reducible refine (num_Put.calls kj2 (fun k_ => some k_ = (.slice Ao57 t216.length co57 : Value).ownBlock) (.slice Ao57 t216.length co57) t216 a0_5 t249 w _ ?side1 ?side2 A54.out).mono ?_); (case side1 => repeat (first | (with_reducible first | exact HB.out | apply below_alloc | apply pw_below_drewN | apply below_drew1 | refine below_set ?_ GE212.out) | exact HB.out)); (case side2 => exact Kd.R_tight rfl HO_3.out); rintro e w58 ⟨v250, rfl, ho0, hb, hkp⟩; refine ⟨_, rfl, ?_⟩; have n0_ := Aside0.mk (blk_kept (by (with_reducible repeat (first | refine blk_drewN ?_ _ | refine blk_drew ?_ | refine blk_alloc ?_ _)); exact BK212.out) hkp (fun hs_ => (fun e_ => (Kd.R_ne HO_3.out BK212.out (by decide)) e_) hs_)); have n1_ := Aside0.mk (Kd.R_mono (ok' := fun k_ => True) ho0 (fun k_ hk_ => trivial)); have n2_ := Aside0.mk (hb); clear BK212; clear HB; clear HO_3; have BK212 := n0_; have HO251 := n1_; have HB := n2_; clear n0_ n1_ n2_; (try clear hb); (try clear hkp); (try clear ho0); have hcz59_0 : w58.cell? ⟨gb212, 0, none⟩ = some (.int .i64 a0_0) := (blk_cell BK212.out 0).trans rfl; have hcz59_1 : w58.cell? ⟨gb212, 1, none⟩ = some (.int .i64 a0_1) := (blk_cell BK212.out 1).trans rfl; have hcz59_2 : w58.cell? ⟨gb212, 2, none⟩ = some (.int .i64 a0_2) := (blk_cell BK212.out 2).trans rfl; have hcz59_3 : w58.cell? ⟨gb212, 3, none⟩ = some (.int .u64 a0_3) := (blk_cell BK212.out 3).trans rfl; have hcz59_4 : w58.cell? ⟨gb212, 4, none⟩ = some (.int .i64 a0_4) := (blk_cell BK212.out 4).trans rfl; have hcz59_5 : w58.cell? ⟨gb212, 5, none⟩ = some (.int .u64 a0_5) := (blk_cell BK212.out 5).trans rfl; have hcz59_6 : w58.cell? ⟨gb212, 6, none⟩ = some (.int .i64 a0_6) := (blk_cell BK212.out 6).trans rfl; have hcz59_7 : w58.cell? ⟨gb212, 7, none⟩ = some (.int .i64 a0_7) := (blk_cell BK212.out 7).trans rfl; have hcz59_8 : w58.cell? ⟨gb212, 8, none⟩ = some (.string a0_8) := (blk_cell BK212.out 8).trans rfl; have hcz59_9 : w58.cell? ⟨gb212, 9, none⟩ = some (.string a0_9) := (blk_cell BK212.out 9).trans rfl; have hcz59_10 : w58.cell? ⟨gb212, 10, none⟩ = some (.bool a0_10) := (blk_cell BK212.out 10).trans rfl; have hcz59_11 : w58.cell? ⟨gb212, 11, none⟩ = some (.int .i64 a0_11) := (blk_cell BK212.out 11).trans rfl; have hfz59_0 := blk_frozen BK212.out 0; have hfz59_1 := blk_frozen BK212.out 1; have hfz59_2 := blk_frozen BK212.out 2; have hfz59_3 := blk_frozen BK212.out 3; have hfz59_4 := blk_frozen BK212.out 4; have hfz59_5 := blk_frozen BK212.out 5; have hfz59_6 := blk_frozen BK212.out 6; have hfz59_7 := blk_frozen BK212.out 7; have hfz59_8 := blk_frozen BK212.out 8; have hfz59_9 := blk_frozen BK212.out 9; have hfz59_10 := blk_frozen BK212.out 10; have hfz59_11 := blk_frozen BK212.out 11; obtain ⟨Ao60, co60, eo60⟩ := Kd.R_slice HO251.out; subst eo60) | ((with_reducible refine gate_callee (f := 16) rfl ?_); refine goesL_ (some 81) rfl rfl Try.func16 (by kernel_rfl) rfl #[.slice Ao60 t249.length co60, .int .u64 (IntKind.u64.wrap (a0_6))] rfl (by (try simp only [List.map_toArray, List.map_cons, List.map_nil]); first | done | rfl | (simp only [List.length_drop, List.length_take]; rfl)) ?_; (with_reducible refine (num_Put.calls kj2 (fun k_ => some k_ = (.slice Ao60 t249.length co60 : Value).ownBlock) (.slice Ao60 t249.length co60) t249 (IntKind.u64.wrap (a0_6)) t252 w _ ?side1 ?side2 A55.out).mono ?_); (case side1 => repeat (first | (with_reducible first | exact HB.out | apply below_alloc | apply pw_below_drewN | apply below_drew1 | refine below_set ?_ GE212.out) | exact HB.out)); (case side2 => exact Kd.R_tight rfl HO251.out); rintro e w61 ⟨v253, rfl, ho0, hb, hkp⟩; refine ⟨_, rfl, ?_⟩; have n0_ := Aside0.mk (blk_kept (by (with_reducible repeat (first | refine blk_drewN ?_ _ | refine blk_drew ?_ | refine blk_alloc ?_ _)); exact BK212.out) hkp (fun hs_ => (fun e_ => (Kd.R_ne HO251.out BK212.out (by decide)) e_) hs_)); have n1_ := Aside0.mk (Kd.R_mono (ok' := fun k_ => True) ho0 (fun k_ hk_ => trivial)); have n2_ := Aside0.mk (hb); clear BK212; clear HB; clear HO251; have BK212 := n0_; have HO254 := n1_; have HB := n2_; clear n0_ n1_ n2_; (try clear hb); (try clear hkp); (try clear ho0)))
              go_ret
              exact ⟨_, by first | rfl | (simp [errW_none, errW_some] <;> rfl) | (simp [*, errW_none, errW_some] <;> rfl), by (with_reducible repeat (first | apply Kd.R_alloc | apply Kd.R_drewN | apply Kd.R_drew)); exact HO254.out, by repeat (first | (with_reducible first | exact HB.out | apply below_alloc | apply pw_below_drewN | apply below_drew1 | refine below_set ?_ GE212.out) | exact HB.out)⟩
            · rw [if_neg c53] at H
              have c53b0 : (a0_0 == 5) = false := beq_eq_false_iff_ne.mpr c53
              have c53b1 : (a0_0 != 5) = true := bne_iff_ne.mpr c53
              by_cases c62 : a0_0 = 6
              · rw [if_pos c62] at H
                have c62b0 : (a0_0 == 6) = true := beq_iff_eq.mpr c62
                have c62b1 : (a0_0 != 6) = false := bne_eq_false_iff_eq.mpr c62
                clear c62
                by_cases c63 : t216.length < 140737488355328
                · rw [if_pos c63] at H
                  have LMc63 := Aside0.mk c63
                  clear c63
                  obtain ⟨y255, hy255⟩ : ∃ y_ : List Int, y_ = (t216 ++ [(a0_11) % 256]) := ⟨_, rfl⟩
                  replace H : (some y255) = some r := by first | (rw [hy255]; with_reducible exact H) | (have H2_ := (Option.bind_some _ _).symm.trans H; rw [hy255]; with_reducible exact H2_) | (have H2_ := (Option.bind_some _ _).symm.trans H; with_reducible exact H2_) | with_reducible exact H | (rw [hy255]; exact H) | exact H
                  have Ny255 := Aside0.mk hy255
                  clear hy255
                  obtain rfl := Option.some.inj H
                  have hcz64_0 : wc.cell? ⟨gb212, 0, none⟩ = some (.int .i64 a0_0) := (blk_cell BK212.out 0).trans rfl
                  have hcz64_1 : wc.cell? ⟨gb212, 1, none⟩ = some (.int .i64 a0_1) := (blk_cell BK212.out 1).trans rfl
                  have hcz64_2 : wc.cell? ⟨gb212, 2, none⟩ = some (.int .i64 a0_2) := (blk_cell BK212.out 2).trans rfl
                  have hcz64_3 : wc.cell? ⟨gb212, 3, none⟩ = some (.int .u64 a0_3) := (blk_cell BK212.out 3).trans rfl
                  have hcz64_4 : wc.cell? ⟨gb212, 4, none⟩ = some (.int .i64 a0_4) := (blk_cell BK212.out 4).trans rfl
                  have hcz64_5 : wc.cell? ⟨gb212, 5, none⟩ = some (.int .u64 a0_5) := (blk_cell BK212.out 5).trans rfl
                  have hcz64_6 : wc.cell? ⟨gb212, 6, none⟩ = some (.int .i64 a0_6) := (blk_cell BK212.out 6).trans rfl
                  have hcz64_7 : wc.cell? ⟨gb212, 7, none⟩ = some (.int .i64 a0_7) := (blk_cell BK212.out 7).trans rfl
                  have hcz64_8 : wc.cell? ⟨gb212, 8, none⟩ = some (.string a0_8) := (blk_cell BK212.out 8).trans rfl
                  have hcz64_9 : wc.cell? ⟨gb212, 9, none⟩ = some (.string a0_9) := (blk_cell BK212.out 9).trans rfl
                  have hcz64_10 : wc.cell? ⟨gb212, 10, none⟩ = some (.bool a0_10) := (blk_cell BK212.out 10).trans rfl
                  have hcz64_11 : wc.cell? ⟨gb212, 11, none⟩ = some (.int .i64 a0_11) := (blk_cell BK212.out 11).trans rfl
                  have hfz64_0 := blk_frozen BK212.out 0
                  have hfz64_1 := blk_frozen BK212.out 1
                  have hfz64_2 := blk_frozen BK212.out 2
                  have hfz64_3 := blk_frozen BK212.out 3
                  have hfz64_4 := blk_frozen BK212.out 4
                  have hfz64_5 := blk_frozen BK212.out 5
                  have hfz64_6 := blk_frozen BK212.out 6
                  have hfz64_7 := blk_frozen BK212.out 7
                  have hfz64_8 := blk_frozen BK212.out 8
                  have hfz64_9 := blk_frozen BK212.out 9
                  have hfz64_10 := blk_frozen BK212.out 10
                  have hfz64_11 := blk_frozen BK212.out 11
                  go_wp2_with (first | ((with_reducible refine gate_builtin (b := .append) (xs := #[.tmp 84, .tmp 88]) rfl ?_); at_builtin; refine Kd.R_append (Kd.int .u8) (w0 := w) w.heap.size rfl (.tmp 84) (.tmp 88) 24 5 (.int .u8 0) 1 rfl Try.underlying24 info5 rfl (by decide) (by omega) v217 t216 ((a0_11) % 256) [.int .u8 ((a0_11) % 256)] (fun _ => True) (fun _ => False) rfl rfl ?aP (fun _ hk => hk.elim) ?aF ?aO ?aB ?aS ?aL ?_; (case aP => exact rfl); (case aB => exact (by repeat (first | (with_reducible first | exact HB.out | apply below_alloc | apply pw_below_drewN | apply below_drew1 | refine below_set ?_ GE212.out) | exact HB.out))); (case aF => exact (fun _ _ => trivial)); (case aO => exact (by (with_reducible repeat (first | apply Kd.R_alloc | apply Kd.R_drewN | apply Kd.R_drew)); exact HO_3.out)); (case aS => exact (below_size (by repeat (first | (with_reducible first | exact HB.out | apply below_alloc | apply pw_below_drewN | apply below_drew1 | refine below_set ?_ GE212.out) | exact HB.out)))); (case aL => have := LMc63.out; omega); intro v256 w65 ho hb hg hat; rw [← Ny255.out] at ho; have n0_ := Aside0.mk (blk_grown (g := gb212) (o := .cells #[.int .i64 a0_0, .int .i64 a0_1, .int .i64 a0_2, .int .u64 a0_3, .int .i64 a0_4, .int .u64 a0_5, .int .i64 a0_6, .int .i64 a0_7, .string a0_8, .string a0_9, .bool a0_10, .int .i64 a0_11] 47 (0, 0)) (by (with_reducible repeat (first | refine blk_drewN ?_ _ | refine blk_drew ?_ | refine blk_alloc ?_ _)); exact BK212.out) hg (Kd.R_ne HO_3.out BK212.out (by decide))); have n1_ := Aside0.mk (hb); have n2_ := Aside0.mk (ho); clear BK212; clear HB; clear HO_3; have BK212 := n0_; have HB := n1_; have HO257 := n2_; clear n0_ n1_ n2_; clear ho hb hg hat))
                  go_ret
                  exact ⟨_, by first | rfl | (simp [errW_none, errW_some] <;> rfl) | (simp [*, errW_none, errW_some] <;> rfl), by (with_reducible repeat (first | apply Kd.R_alloc | apply Kd.R_drewN | apply Kd.R_drew)); exact HO257.out, by repeat (first | (with_reducible first | exact HB.out | apply below_alloc | apply pw_below_drewN | apply below_drew1 | refine below_set ?_ GE212.out) | exact HB.out)⟩
                · rw [if_neg c63] at H
                  exact absurd H (by simp)
              · rw [if_neg c62] at H
                have c62b0 : (a0_0 == 6) = false := beq_eq_false_iff_ne.mpr c62
                have c62b1 : (a0_0 != 6) = true := bne_iff_ne.mpr c62
                obtain rfl := Option.some.inj H
                have hcz66_0 : wc.cell? ⟨gb212, 0, none⟩ = some (.int .i64 a0_0) := (blk_cell BK212.out 0).trans rfl
                have hcz66_1 : wc.cell? ⟨gb212, 1, none⟩ = some (.int .i64 a0_1) := (blk_cell BK212.out 1).trans rfl
                have hcz66_2 : wc.cell? ⟨gb212, 2, none⟩ = some (.int .i64 a0_2) := (blk_cell BK212.out 2).trans rfl
                have hcz66_3 : wc.cell? ⟨gb212, 3, none⟩ = some (.int .u64 a0_3) := (blk_cell BK212.out 3).trans rfl
                have hcz66_4 : wc.cell? ⟨gb212, 4, none⟩ = some (.int .i64 a0_4) := (blk_cell BK212.out 4).trans rfl
                have hcz66_5 : wc.cell? ⟨gb212, 5, none⟩ = some (.int .u64 a0_5) := (blk_cell BK212.out 5).trans rfl
                have hcz66_6 : wc.cell? ⟨gb212, 6, none⟩ = some (.int .i64 a0_6) := (blk_cell BK212.out 6).trans rfl
                have hcz66_7 : wc.cell? ⟨gb212, 7, none⟩ = some (.int .i64 a0_7) := (blk_cell BK212.out 7).trans rfl
                have hcz66_8 : wc.cell? ⟨gb212, 8, none⟩ = some (.string a0_8) := (blk_cell BK212.out 8).trans rfl
                have hcz66_9 : wc.cell? ⟨gb212, 9, none⟩ = some (.string a0_9) := (blk_cell BK212.out 9).trans rfl
                have hcz66_10 : wc.cell? ⟨gb212, 10, none⟩ = some (.bool a0_10) := (blk_cell BK212.out 10).trans rfl
                have hcz66_11 : wc.cell? ⟨gb212, 11, none⟩ = some (.int .i64 a0_11) := (blk_cell BK212.out 11).trans rfl
                have hfz66_0 := blk_frozen BK212.out 0
                have hfz66_1 := blk_frozen BK212.out 1
                have hfz66_2 := blk_frozen BK212.out 2
                have hfz66_3 := blk_frozen BK212.out 3
                have hfz66_4 := blk_frozen BK212.out 4
                have hfz66_5 := blk_frozen BK212.out 5
                have hfz66_6 := blk_frozen BK212.out 6
                have hfz66_7 := blk_frozen BK212.out 7
                have hfz66_8 := blk_frozen BK212.out 8
                have hfz66_9 := blk_frozen BK212.out 9
                have hfz66_10 := blk_frozen BK212.out 10
                have hfz66_11 := blk_frozen BK212.out 11
                go_wp2
                go_ret
                exact ⟨_, by first | rfl | (simp [errW_none, errW_some] <;> rfl) | (simp [*, errW_none, errW_some] <;> rfl), by (with_reducible repeat (first | apply Kd.R_alloc | apply Kd.R_drewN | apply Kd.R_drew)); exact HO_3.out, by repeat (first | (with_reducible first | exact HB.out | apply below_alloc | apply pw_below_drewN | apply below_drew1 | refine below_set ?_ GE212.out) | exact HB.out)⟩

end Go.Proofs.Ytolcmjoapnldiaa.Q
