-- printed by a turned print (wip/mkprint.py of this repo) out of the translation; Lean checks it
import Derived.Test.YtopfaeefhicljaaP0
import Derived.Test.YtopfaeefhicljaaP1
import Derived.Test.YtopfaeefhicljaaP2
namespace Go.Proofs.Ytopfaeefhicljaa.Q
open Go.RowKit Go.Proofs.YtopfaeefhicljaaW.PrintWords Go.Proofs.YtopfaeefhicljaaW.PrintLast Go.Proofs.YtopfaeefhicljaaW.PrintMore
attribute [local go_sem] max2_int min2_int max_two min_two max_three min_three max_four min_four   -- for this text's walks alone
set_option linter.unusedVariables false
set_option linter.unusedSimpArgs false

/-! ### page_Page_Right: function 17 -/
def page_Page_Right.j0 : Nat → Int → Int → Int → Bool → Int → List ByteArray → List ByteArray → List Int → Int → Int → Int → Int → Option (Bool)
 | 0, _, _, _, _, _, _, _, _, _, _, _, _ => none
 | k + 1, x3, x4, x5, x6, zd, zba, yw, yx, ya, yb, ze, zi => if zd = 1 then (if x3 ≤ 6 then (if x4 = x3 then (if x5 = 0 then (if x6 = true then ((slices_ContainsFunc_string_string.f yw 39).bind fun t106 => (some (!t106))) else (some false)) else (some false)) else (some false)) else (some false)) else (if zd = 2 then (if x5 ≥ 2 then (if x5 ≤ 8 then (if x3 = (wrap64 (x5 - 1)) then (if x4 = 0 then (if x6 = true then ((slices_ContainsFunc_int_int.f yx 41).bind fun t107 => (some (!t107))) else (some false)) else (some false)) else (some false)) else (some false)) else (some false)) else (if zd = 3 then (if (wrap64 ((wrap64 (x3 + x4)) + x5)) = 0 then ((page_in.f ya).bind fun t108 => (if t108 = true then ((page_in.f yb).bind fun t109 => (if t109 = true then (if ze ≥ 0 then (if ze ≤ 65536 then (if zi ≥ 0 then (some (decide (zi ≤ ze))) else (some false)) else (some false)) else (some false)) else (some false))) else (some false))) else (some false)) else (if zd = 4 then (if (wrap64 ((wrap64 (x3 + x4)) + x5)) = 0 then (if ya = 0 then ((page_in.f yb).bind fun t110 => (if t110 = true then (if ze = 0 then (some (zi == 0)) else (some false)) else (some false))) else (some false)) else (some false)) else (some false))))
def page_Page_Right.f (k : Nat) (a0_0 : Int) (l0_1 : List ByteArray) (l0_2 : List ByteArray) (l0_3 : List Int) (a0_4 : Int) (a0_5 : Int) (a0_6 : Int) (a0_7 : Int) : Option (Bool) := (page_rising.f k l0_1).bind fun t105 => (if t105 = true then (if a0_4 = 0 then (if a0_5 = 0 then (if a0_6 = 0 then (page_Page_Right.j0 k (l0_1.length : Int) (l0_2.length : Int) (l0_3.length : Int) (a0_7 == 0) a0_0 l0_1 l0_2 l0_3 a0_4 a0_5 a0_6 a0_7) else (page_Page_Right.j0 k (l0_1.length : Int) (l0_2.length : Int) (l0_3.length : Int) false a0_0 l0_1 l0_2 l0_3 a0_4 a0_5 a0_6 a0_7)) else (page_Page_Right.j0 k (l0_1.length : Int) (l0_2.length : Int) (l0_3.length : Int) false a0_0 l0_1 l0_2 l0_3 a0_4 a0_5 a0_6 a0_7)) else (page_Page_Right.j0 k (l0_1.length : Int) (l0_2.length : Int) (l0_3.length : Int) false a0_0 l0_1 l0_2 l0_3 a0_4 a0_5 a0_6 a0_7)) else (some false))
theorem page_Page_Right.mono_l : ∀ k, (∀ y0 y1 y2 y3 y4 y5 y6 y7 y8 y9 y10 y11, LeO (page_Page_Right.j0 k y0 y1 y2 y3 y4 y5 y6 y7 y8 y9 y10 y11) (page_Page_Right.j0 (k + 1) y0 y1 y2 y3 y4 y5 y6 y7 y8 y9 y10 y11))
 | 0 => fun _ _ _ _ _ _ _ _ _ _ _ _ r h => by simp [page_Page_Right.j0] at h
 | k + 1 => by
  have ih0 := page_Page_Right.mono_l k
  ·intro y0 y1 y2 y3 y4 y5 y6 y7 y8 y9 y10 y11
   unfold page_Page_Right.j0
   repeat' first
   | (with_reducible exact ih0 _ _ _ _ _ _ _ _ _ _ _ _)
   | (with_reducible exact page_rising.mono _ _)
   | (with_reducible exact LeO.refl _)
   | (with_reducible exact LeO.none _)
   | (with_reducible refine LeO.ite ?_ ?_)
   | (with_reducible refine LeO.bind ?_ (fun _ => ?_))
   | exact ih0 _ _ _ _ _ _ _ _ _ _ _ _
   | exact page_rising.mono _ _
   | exact LeO.none _
   | refine LeO.ite ?_ ?_
   | refine LeO.bind ?_ (fun _ => ?_)
theorem page_Page_Right.mono : ∀ a0 a1 a2 a3 a4 a5 a6 a7 k, LeO (page_Page_Right.f k a0 a1 a2 a3 a4 a5 a6 a7) (page_Page_Right.f (k + 1) a0 a1 a2 a3 a4 a5 a6 a7) := by
 intro a0 a1 a2 a3 a4 a5 a6 a7 k
 have ih0 := page_Page_Right.mono_l k
 unfold page_Page_Right.f
 repeat' first
   | (with_reducible exact ih0 _ _ _ _ _ _ _ _ _ _ _ _)
   | (with_reducible exact page_rising.mono _ _)
   | (with_reducible exact LeO.refl _)
   | (with_reducible exact LeO.none _)
   | (with_reducible refine LeO.ite ?_ ?_)
   | (with_reducible refine LeO.bind ?_ (fun _ => ?_))
   | exact ih0 _ _ _ _ _ _ _ _ _ _ _ _
   | exact page_rising.mono _ _
   | exact LeO.none _
   | refine LeO.ite ?_ ?_
   | refine LeO.bind ?_ (fun _ => ?_)
set_option maxHeartbeats 8000000 in
set_option maxRecDepth 100000 in
theorem page_Page_Right.calls (k : Nat) (a0_0 : Int) (A0_1 : Option Addr) (c0_1 : Nat) (l0_1 : List ByteArray) (A0_2 : Option Addr) (c0_2 : Nat) (l0_2 : List ByteArray) (A0_3 : Option Addr) (c0_3 : Nat) (l0_3 : List Int) (a0_4 : Int) (a0_5 : Int) (a0_6 : Int) (a0_7 : Int) (r : Bool) (w : World) (hr0_1 : Kd.C Kd.string w A0_1 l0_1.length l0_1) (hc0_1 : l0_1.length ≤ c0_1) (hr0_2 : Kd.C Kd.string w A0_2 l0_2.length l0_2) (hc0_2 : l0_2.length ≤ c0_2) (hr0_3 : Kd.C (Kd.int .i64) w A0_3 l0_3.length l0_3) (hc0_3 : l0_3.length ≤ c0_3) (h : page_Page_Right.f k a0_0 l0_1 l0_2 l0_3 a0_4 a0_5 a0_6 a0_7 = some r) :
  Calls Try.prog 17 #[.agg #[.int .i64 a0_0, .slice A0_1 l0_1.length c0_1, .slice A0_2 l0_2.length c0_2, .slice A0_3 l0_3.length c0_3, .int .i64 a0_4, .int .i64 a0_5, .int .i64 a0_6, .int .i64 a0_7]] w fun e w' => e = .returned (.bool r) ∧ Below w.heap.size w w' := by
 have hu27 := Try.underlying27
 have zf := Aside0.mk hr0_1
 have zg := Aside0.mk hc0_1
 clear hr0_1 hc0_1
 have ys := Aside0.mk hr0_2
 have yt := Aside0.mk hc0_2
 clear hr0_2 hc0_2
 have yu := Aside0.mk hr0_3
 have yv := Aside0.mk hc0_3
 clear hr0_3 hc0_3
 have HB := Aside0.mk (Below.refl w.heap.size w)
 have H : ((page_rising.f k l0_1).bind fun t105 => (if t105 = true then (if a0_4 = 0 then (if a0_5 = 0 then (if a0_6 = 0 then (page_Page_Right.j0 k (l0_1.length : Int) (l0_2.length : Int) (l0_3.length : Int) (a0_7 == 0) a0_0 l0_1 l0_2 l0_3 a0_4 a0_5 a0_6 a0_7) else (page_Page_Right.j0 k (l0_1.length : Int) (l0_2.length : Int) (l0_3.length : Int) false a0_0 l0_1 l0_2 l0_3 a0_4 a0_5 a0_6 a0_7)) else (page_Page_Right.j0 k (l0_1.length : Int) (l0_2.length : Int) (l0_3.length : Int) false a0_0 l0_1 l0_2 l0_3 a0_4 a0_5 a0_6 a0_7)) else (page_Page_Right.j0 k (l0_1.length : Int) (l0_2.length : Int) (l0_3.length : Int) false a0_0 l0_1 l0_2 l0_3 a0_4 a0_5 a0_6 a0_7)) else (some false))) = some r := h
 clear h
 replace H := Option.bind_eq_some_iff.mp H
 obtain ⟨t105, A20, H⟩ := H
 replace H : (if t105 = true then (if a0_4 = 0 then (if a0_5 = 0 then (if a0_6 = 0 then (page_Page_Right.j0 k (l0_1.length : Int) (l0_2.length : Int) (l0_3.length : Int) (a0_7 == 0) a0_0 l0_1 l0_2 l0_3 a0_4 a0_5 a0_6 a0_7) else (page_Page_Right.j0 k (l0_1.length : Int) (l0_2.length : Int) (l0_3.length : Int) false a0_0 l0_1 l0_2 l0_3 a0_4 a0_5 a0_6 a0_7)) else (page_Page_Right.j0 k (l0_1.length : Int) (l0_2.length : Int) (l0_3.length : Int) false a0_0 l0_1 l0_2 l0_3 a0_4 a0_5 a0_6 a0_7)) else (page_Page_Right.j0 k (l0_1.length : Int) (l0_2.length : Int) (l0_3.length : Int) false a0_0 l0_1 l0_2 l0_3 a0_4 a0_5 a0_6 a0_7)) else (some false)) = some r := H
 have A2 := Aside0.mk A20
 clear A20
 by_cases c3 : t105 = true
 ·subst c3
  have H1 : (if a0_4 = 0 then (if a0_5 = 0 then (if a0_6 = 0 then (page_Page_Right.j0 k (l0_1.length : Int) (l0_2.length : Int) (l0_3.length : Int) (a0_7 == 0) a0_0 l0_1 l0_2 l0_3 a0_4 a0_5 a0_6 a0_7) else (page_Page_Right.j0 k (l0_1.length : Int) (l0_2.length : Int) (l0_3.length : Int) false a0_0 l0_1 l0_2 l0_3 a0_4 a0_5 a0_6 a0_7)) else (page_Page_Right.j0 k (l0_1.length : Int) (l0_2.length : Int) (l0_3.length : Int) false a0_0 l0_1 l0_2 l0_3 a0_4 a0_5 a0_6 a0_7)) else (page_Page_Right.j0 k (l0_1.length : Int) (l0_2.length : Int) (l0_3.length : Int) false a0_0 l0_1 l0_2 l0_3 a0_4 a0_5 a0_6 a0_7)) = some r := by rw [if_pos rfl] at H; exact H
  clear H
  have H := H1
  clear H1
  have HC4 := Aside0.mk H
  clear H
  go_enter Try.func17, Try.ntmps17
  go_upto_region 4 with (first | ((with_reducible refine gate_dst (N := 1) rfl ?_); refine box_event ?hg (N := 1) ?hd (cs := #[.int .i64 a0_0, .slice A0_1 l0_1.length c0_1, .slice A0_2 l0_2.length c0_2, .slice A0_3 l0_3.length c0_3, .int .i64 a0_4, .int .i64 a0_5, .int .i64 a0_6, .int .i64 a0_7]) (t := 27) ?hr ?_; (case hd => rfl); (case hg => rfl); (case hr => first | (go_simp; done) | (go_simp; rfl)); intro zb hg w5 hbox hb; have n0_ := Aside0.mk (below_step (by repeat (first | (with_reducible first | exact HB.out | apply wA | apply wN | apply wD) | exact HB.out)) hb); have n1_ := Aside0.mk (hbox); have n2_ := Aside0.mk ((by rw [hg]; exact (below_size (by repeat (first | (with_reducible first | exact HB.out | apply wA | apply wN | apply wD) | exact HB.out))) : w.heap.size ≤ zb)); have n3_ := Aside0.mk ((by rw [hg]; exact (below_size (by repeat (first | (with_reducible first | exact HB.out | apply wA | apply wN | apply wD) | exact HB.out))) : w.heap.size ≤ zb)); clear HB; have HB := n0_; have za := n1_; have zh := n2_; have zc := n3_; clear n0_ n1_ n2_ n3_; clear hb hbox hg; have zj : w5.cell? ⟨zb, 0, none⟩ = some (.int .i64 a0_0) := (blk_cell za.out 0).trans rfl; have zk : w5.cell? ⟨zb, 1, none⟩ = some (.slice A0_1 l0_1.length c0_1) := (blk_cell za.out 1).trans rfl; have zl : w5.cell? ⟨zb, 2, none⟩ = some (.slice A0_2 l0_2.length c0_2) := (blk_cell za.out 2).trans rfl; have zm : w5.cell? ⟨zb, 3, none⟩ = some (.slice A0_3 l0_3.length c0_3) := (blk_cell za.out 3).trans rfl; have zn : w5.cell? ⟨zb, 4, none⟩ = some (.int .i64 a0_4) := (blk_cell za.out 4).trans rfl; have zo : w5.cell? ⟨zb, 5, none⟩ = some (.int .i64 a0_5) := (blk_cell za.out 5).trans rfl; have zp : w5.cell? ⟨zb, 6, none⟩ = some (.int .i64 a0_6) := (blk_cell za.out 6).trans rfl; have zq : w5.cell? ⟨zb, 7, none⟩ = some (.int .i64 a0_7) := (blk_cell za.out 7).trans rfl; have zr := blk_frozen za.out 0; have zs := blk_frozen za.out 1; have zt := blk_frozen za.out 2; have zu := blk_frozen za.out 3; have zv := blk_frozen za.out 4; have zw := blk_frozen za.out 5; have zx := blk_frozen za.out 6; have zy := blk_frozen za.out 7) | (go_at_call 37; (with_reducible refine (page_rising.calls k _ _ l0_1 true _ ?side1 ?side2 A2.out).mono ?_); (case side1 => repeat (first | exact (Kd.C_below zf.out HB.out) | (with_reducible refine Kd.C_alloc ?_ _) | (with_reducible refine Kd.C_drewN ?_ _) | (with_reducible refine Kd.C_drew ?_))); (case side2 => exact zg.out); rintro e w' ⟨rfl, ⟨nd, rfl⟩⟩; (try first | exact ⟨rfl, _, World.drewN_drewN _ _ _⟩ | exact ⟨rfl, _, Eq.trans (World.drewN_drewN _ _ _) (congrArg (World.drewN _) (Nat.add_assoc _ _ _))⟩)))
  repeat (go_quiet (first | ((with_reducible refine gate_dst (N := 1) rfl ?_); refine box_event ?hg (N := 1) ?hd (cs := #[.int .i64 a0_0, .slice A0_1 l0_1.length c0_1, .slice A0_2 l0_2.length c0_2, .slice A0_3 l0_3.length c0_3, .int .i64 a0_4, .int .i64 a0_5, .int .i64 a0_6, .int .i64 a0_7]) (t := 27) ?hr ?_; (case hd => rfl); (case hg => rfl); (case hr => first | (go_simp; done) | (go_simp; rfl)); intro zb hg w5 hbox hb; have n0_ := Aside0.mk (below_step (by repeat (first | (with_reducible first | exact HB.out | apply wA | apply wN | apply wD) | exact HB.out)) hb); have n1_ := Aside0.mk (hbox); have n2_ := Aside0.mk ((by rw [hg]; exact (below_size (by repeat (first | (with_reducible first | exact HB.out | apply wA | apply wN | apply wD) | exact HB.out))) : w.heap.size ≤ zb)); have n3_ := Aside0.mk ((by rw [hg]; exact (below_size (by repeat (first | (with_reducible first | exact HB.out | apply wA | apply wN | apply wD) | exact HB.out))) : w.heap.size ≤ zb)); clear HB; have HB := n0_; have za := n1_; have zh := n2_; have zc := n3_; clear n0_ n1_ n2_ n3_; clear hb hbox hg; have zj : w5.cell? ⟨zb, 0, none⟩ = some (.int .i64 a0_0) := (blk_cell za.out 0).trans rfl; have zk : w5.cell? ⟨zb, 1, none⟩ = some (.slice A0_1 l0_1.length c0_1) := (blk_cell za.out 1).trans rfl; have zl : w5.cell? ⟨zb, 2, none⟩ = some (.slice A0_2 l0_2.length c0_2) := (blk_cell za.out 2).trans rfl; have zm : w5.cell? ⟨zb, 3, none⟩ = some (.slice A0_3 l0_3.length c0_3) := (blk_cell za.out 3).trans rfl; have zn : w5.cell? ⟨zb, 4, none⟩ = some (.int .i64 a0_4) := (blk_cell za.out 4).trans rfl; have zo : w5.cell? ⟨zb, 5, none⟩ = some (.int .i64 a0_5) := (blk_cell za.out 5).trans rfl; have zp : w5.cell? ⟨zb, 6, none⟩ = some (.int .i64 a0_6) := (blk_cell za.out 6).trans rfl; have zq : w5.cell? ⟨zb, 7, none⟩ = some (.int .i64 a0_7) := (blk_cell za.out 7).trans rfl; have zr := blk_frozen za.out 0; have zs := blk_frozen za.out 1; have zt := blk_frozen za.out 2; have zu := blk_frozen za.out 3; have zv := blk_frozen za.out 4; have zw := blk_frozen za.out 5; have zx := blk_frozen za.out 6; have zy := blk_frozen za.out 7) | (go_at_call 37; (with_reducible refine (page_rising.calls k _ _ l0_1 true _ ?side1 ?side2 A2.out).mono ?_); (case side1 => repeat (first | exact (Kd.C_below zf.out HB.out) | (with_reducible refine Kd.C_alloc ?_ _) | (with_reducible refine Kd.C_drewN ?_ _) | (with_reducible refine Kd.C_drew ?_))); (case side2 => exact zg.out); rintro e w' ⟨rfl, ⟨nd, rfl⟩⟩; (try first | exact ⟨rfl, _, World.drewN_drewN _ _ _⟩ | exact ⟨rfl, _, Eq.trans (World.drewN_drewN _ _ _) (congrArg (World.drewN _) (Nat.add_assoc _ _ _))⟩))); go_upto_region 4 with (first | ((with_reducible refine gate_dst (N := 1) rfl ?_); refine box_event ?hg (N := 1) ?hd (cs := #[.int .i64 a0_0, .slice A0_1 l0_1.length c0_1, .slice A0_2 l0_2.length c0_2, .slice A0_3 l0_3.length c0_3, .int .i64 a0_4, .int .i64 a0_5, .int .i64 a0_6, .int .i64 a0_7]) (t := 27) ?hr ?_; (case hd => rfl); (case hg => rfl); (case hr => first | (go_simp; done) | (go_simp; rfl)); intro zb hg w5 hbox hb; have n0_ := Aside0.mk (below_step (by repeat (first | (with_reducible first | exact HB.out | apply wA | apply wN | apply wD) | exact HB.out)) hb); have n1_ := Aside0.mk (hbox); have n2_ := Aside0.mk ((by rw [hg]; exact (below_size (by repeat (first | (with_reducible first | exact HB.out | apply wA | apply wN | apply wD) | exact HB.out))) : w.heap.size ≤ zb)); have n3_ := Aside0.mk ((by rw [hg]; exact (below_size (by repeat (first | (with_reducible first | exact HB.out | apply wA | apply wN | apply wD) | exact HB.out))) : w.heap.size ≤ zb)); clear HB; have HB := n0_; have za := n1_; have zh := n2_; have zc := n3_; clear n0_ n1_ n2_ n3_; clear hb hbox hg; have zj : w5.cell? ⟨zb, 0, none⟩ = some (.int .i64 a0_0) := (blk_cell za.out 0).trans rfl; have zk : w5.cell? ⟨zb, 1, none⟩ = some (.slice A0_1 l0_1.length c0_1) := (blk_cell za.out 1).trans rfl; have zl : w5.cell? ⟨zb, 2, none⟩ = some (.slice A0_2 l0_2.length c0_2) := (blk_cell za.out 2).trans rfl; have zm : w5.cell? ⟨zb, 3, none⟩ = some (.slice A0_3 l0_3.length c0_3) := (blk_cell za.out 3).trans rfl; have zn : w5.cell? ⟨zb, 4, none⟩ = some (.int .i64 a0_4) := (blk_cell za.out 4).trans rfl; have zo : w5.cell? ⟨zb, 5, none⟩ = some (.int .i64 a0_5) := (blk_cell za.out 5).trans rfl; have zp : w5.cell? ⟨zb, 6, none⟩ = some (.int .i64 a0_6) := (blk_cell za.out 6).trans rfl; have zq : w5.cell? ⟨zb, 7, none⟩ = some (.int .i64 a0_7) := (blk_cell za.out 7).trans rfl; have zr := blk_frozen za.out 0; have zs := blk_frozen za.out 1; have zt := blk_frozen za.out 2; have zu := blk_frozen za.out 3; have zv := blk_frozen za.out 4; have zw := blk_frozen za.out 5; have zx := blk_frozen za.out 6; have zy := blk_frozen za.out 7) | (go_at_call 37; (with_reducible refine (page_rising.calls k _ _ l0_1 true _ ?side1 ?side2 A2.out).mono ?_); (case side1 => repeat (first | exact (Kd.C_below zf.out HB.out) | (with_reducible refine Kd.C_alloc ?_ _) | (with_reducible refine Kd.C_drewN ?_ _) | (with_reducible refine Kd.C_drew ?_))); (case side2 => exact zg.out); rintro e w' ⟨rfl, ⟨nd, rfl⟩⟩; (try first | exact ⟨rfl, _, World.drewN_drewN _ _ _⟩ | exact ⟨rfl, _, Eq.trans (World.drewN_drewN _ _ _) (congrArg (World.drewN _) (Nat.add_assoc _ _ _))⟩))))
  (try simp only [Act.put, List.setIfInBounds_toArray, List.set_cons_zero, List.set_cons_succ])
  go_cut [6] (fun v6 wc => ∃ (kq : Nat) (zz : Bool), v6 = .bool zz ∧ Aside0 (page_Page_Right.j0 kq (l0_1.length : Int) (l0_2.length : Int) (l0_3.length : Int) zz a0_0 l0_1 l0_2 l0_3 a0_4 a0_5 a0_6 a0_7 = some r) ∧ Aside0 (kq ≤ k) ∧ Aside0 (wc.heap[zb]? = some (.cells #[.int .i64 a0_0, (.slice A0_1 l0_1.length c0_1), (.slice A0_2 l0_2.length c0_2), (.slice A0_3 l0_3.length c0_3), .int .i64 a0_4, .int .i64 a0_5, .int .i64 a0_6, .int .i64 a0_7] 27 (0, 0))) ∧ Aside0 (Below w.heap.size w wc))
  case first =>
   have H := HC4.out
   clear HC4
   by_cases c7 : a0_4 = 0
   ·rw [if_pos c7] at H
    have c7b0 : (a0_4 == 0) = true := beq_iff_eq.mpr c7
    have c7b1 : (a0_4 != 0) = false := bne_eq_false_iff_eq.mpr c7
    clear c7
    (first | rw [c7b0] | (simp only [i64_w, i32_w]; rw [c7b0]) | skip)
    by_cases c8 : a0_5 = 0
    ·rw [if_pos c8] at H
     have c8b0 : (a0_5 == 0) = true := beq_iff_eq.mpr c8
     have c8b1 : (a0_5 != 0) = false := bne_eq_false_iff_eq.mpr c8
     clear c8
     by_cases c9 : a0_6 = 0
     ·rw [if_pos c9] at H
      have c9b0 : (a0_6 == 0) = true := beq_iff_eq.mpr c9
      have c9b1 : (a0_6 != 0) = false := bne_eq_false_iff_eq.mpr c9
      clear c9
      have H' := Aside0.mk H
      clear H
      obtain ⟨yy, yz, ja, jb, jc, jd, je, jf⟩ := cells8 (w := w5) za.out
      obtain ⟨jg, jh, ji, jj, jk, jl, jm, jn⟩ := frozen8 za.out
      go_wp2
      repeat (go_quiet (fail); try go_wp2)
      go_meet
      case rel => exact ⟨_, ((a0_7 == 0)), (by first | rfl | (simp; done) | (simp [*]; done)), H', ⟨by first | omega | exact Nat.le_refl _⟩, ⟨by (with_reducible repeat (first | refine bN ?_ _ | refine bD ?_ | refine bA ?_ _)); exact za.out⟩, ⟨by repeat (first | (with_reducible first | exact HB.out | apply wA | apply wN | apply wD | refine wS ?_ zc.out) | exact HB.out)⟩⟩
     ·rw [if_neg c9] at H
      have c9b0 : (a0_6 == 0) = false := beq_eq_false_iff_ne.mpr c9
      have c9b1 : (a0_6 != 0) = true := bne_iff_ne.mpr c9
      have H' := Aside0.mk H
      clear H
      obtain ⟨jo, jp, jq, jr, js, jt, ju, jv⟩ := cells8 (w := w5) za.out
      obtain ⟨jw, jx, jy, jz, zaa, zab, zac, zad⟩ := frozen8 za.out
      go_wp2
      repeat (go_quiet (fail); try go_wp2)
      go_meet
      case rel => exact ⟨_, (false), (by first | rfl | (simp; done) | (simp [*]; done)), H', ⟨by first | omega | exact Nat.le_refl _⟩, ⟨by (with_reducible repeat (first | refine bN ?_ _ | refine bD ?_ | refine bA ?_ _)); exact za.out⟩, ⟨by repeat (first | (with_reducible first | exact HB.out | apply wA | apply wN | apply wD | refine wS ?_ zc.out) | exact HB.out)⟩⟩
    ·rw [if_neg c8] at H
     have c8b0 : (a0_5 == 0) = false := beq_eq_false_iff_ne.mpr c8
     have c8b1 : (a0_5 != 0) = true := bne_iff_ne.mpr c8
     have H' := Aside0.mk H
     clear H
     obtain ⟨zae, zaf, zag, zah, zai, zaj, zak, zal⟩ := cells8 (w := w5) za.out
     obtain ⟨zam, zan, zao, zap, zaq, zar, zas, zat⟩ := frozen8 za.out
     go_wp2
     repeat (go_quiet (fail); try go_wp2)
     go_meet
     case rel => exact ⟨_, (false), (by first | rfl | (simp; done) | (simp [*]; done)), H', ⟨by first | omega | exact Nat.le_refl _⟩, ⟨by (with_reducible repeat (first | refine bN ?_ _ | refine bD ?_ | refine bA ?_ _)); exact za.out⟩, ⟨by repeat (first | (with_reducible first | exact HB.out | apply wA | apply wN | apply wD | refine wS ?_ zc.out) | exact HB.out)⟩⟩
   ·rw [if_neg c7] at H
    have c7b0 : (a0_4 == 0) = false := beq_eq_false_iff_ne.mpr c7
    have c7b1 : (a0_4 != 0) = true := bne_iff_ne.mpr c7
    (first | rw [c7b0] | (simp only [i64_w, i32_w]; rw [c7b0]) | skip)
    have H' := Aside0.mk H
    clear H
    obtain ⟨zau, zav, zaw, zax, zay, zaz, za0, za1⟩ := cells8 (w := w5) za.out
    obtain ⟨za2, za3, za4, za5, za6, za7, za8, za9⟩ := frozen8 za.out
    go_wp2
    repeat (go_quiet (fail); try go_wp2)
    go_meet
    case rel => exact ⟨_, (false), (by first | rfl | (simp; done) | (simp [*]; done)), H', ⟨by first | omega | exact Nat.le_refl _⟩, ⟨by (with_reducible repeat (first | refine bN ?_ _ | refine bD ?_ | refine bA ?_ _)); exact za.out⟩, ⟨by repeat (first | (with_reducible first | exact HB.out | apply wA | apply wN | apply wD | refine wS ?_ zc.out) | exact HB.out)⟩⟩
  case rest =>
   clear HC4
   (try clear c1); (try clear p2); (try clear c3); (try clear c7); (try clear c7b0); (try clear c7b1); (try clear c8); (try clear c8b0); (try clear c8b1); (try clear c9); (try clear c9b0); (try clear c9b1); (try clear yy yz ja jb jc jd je jf); (try clear jo jp jq jr js jt ju jv); (try clear zae zaf zag zah zai zaj zak zal); (try clear zau zav zaw zax zay zaz za0 za1); (try clear zj zk zl zm zn zo zp zq); (try clear jg jh ji jj jk jl jm jn); (try clear jw jx jy jz zaa zab zac zad); (try clear zam zan zao zap zaq zar zas zat); (try clear za2 za3 za4 za5 za6 za7 za8 za9); (try clear zr zs zt zu zv zw zx zy)
   obtain ⟨kq, zz, rfl, HA, HJ3, za, HB⟩ := hcut
   cases kq with
   | zero => exact absurd HA.out (by simp [page_Page_Right.j0])
   | succ kj3 =>
    have H := HA.out
    clear HA
    simp only [page_Page_Right.j0] at H
    by_cases c14 : a0_0 = 1
    ·rw [if_pos c14] at H
     have c14b0 : (a0_0 == 1) = true := beq_iff_eq.mpr c14
     have c14b1 : (a0_0 != 1) = false := bne_eq_false_iff_eq.mpr c14
     clear c14
     by_cases c15 : (l0_1.length : Int) ≤ 6
     ·rw [if_pos c15] at H
      have c15b0 : decide ((l0_1.length : Int) ≤ 6) = true := decide_eq_true c15
      have c15b1 : decide (l0_1.length ≤ 6) = true := decide_eq_true (by omega)
      clear c15
      by_cases c16 : (l0_2.length : Int) = (l0_1.length : Int)
      ·rw [if_pos c16] at H
       have c16b0 : ((l0_2.length : Int) == (l0_1.length : Int)) = true := beq_iff_eq.mpr c16
       have c16b1 : ((l0_2.length : Int) != (l0_1.length : Int)) = false := bne_eq_false_iff_eq.mpr c16
       have c16b2 : (l0_2.length == l0_1.length) = true := by first | simpa using c16 | (simp at c16 ⊢; omega)
       clear c16
       by_cases c17 : (l0_3.length : Int) = 0
       ·rw [if_pos c17] at H
        have c17b0 : ((l0_3.length : Int) == 0) = true := beq_iff_eq.mpr c17
        have c17b1 : ((l0_3.length : Int) != 0) = false := bne_eq_false_iff_eq.mpr c17
        clear c17
        by_cases c18 : zz = true
        ·subst c18
         have H1 : ((slices_ContainsFunc_string_string.f l0_2 39).bind fun t106 => (some (!t106))) = some r := by rw [if_pos rfl] at H; exact H
         clear H
         have H := H1
         clear H1
         replace H := Option.bind_eq_some_iff.mp H
         obtain ⟨t106, A190, H⟩ := H
         replace H : (some (!t106)) = some r := H
         have A19 := Aside0.mk A190
         clear A190
         obtain rfl := Option.some.inj H
         obtain ⟨zbb, zbc, zbd, zbe, zbf, zbg, zbh, zbi⟩ := cells8 (w := wc) za.out
         obtain ⟨zbj, zbk, zbl, zbm, zbn, zbo, zbp, zbq⟩ := frozen8 za.out
         go_wp2_with (first | (go_at_call 38; (with_reducible refine (slices_ContainsFunc_string_string.calls _ _ l0_2 39 t106 _ ?side1 ?side2 A19.out).mono ?_); (case side1 => repeat (first | exact (Kd.C_below ys.out HB.out) | (with_reducible refine Kd.C_alloc ?_ _) | (with_reducible refine Kd.C_drewN ?_ _) | (with_reducible refine Kd.C_drew ?_))); (case side2 => exact yt.out); rintro e w' ⟨rfl, ⟨nd, rfl⟩⟩; (try first | exact ⟨rfl, _, World.drewN_drewN _ _ _⟩ | exact ⟨rfl, _, Eq.trans (World.drewN_drewN _ _ _) (congrArg (World.drewN _) (Nat.add_assoc _ _ _))⟩)))
         repeat (go_quiet (first | (go_at_call 38; (with_reducible refine (slices_ContainsFunc_string_string.calls _ _ l0_2 39 t106 _ ?side1 ?side2 A19.out).mono ?_); (case side1 => repeat (first | exact (Kd.C_below ys.out HB.out) | (with_reducible refine Kd.C_alloc ?_ _) | (with_reducible refine Kd.C_drewN ?_ _) | (with_reducible refine Kd.C_drew ?_))); (case side2 => exact yt.out); rintro e w' ⟨rfl, ⟨nd, rfl⟩⟩; (try first | exact ⟨rfl, _, World.drewN_drewN _ _ _⟩ | exact ⟨rfl, _, Eq.trans (World.drewN_drewN _ _ _) (congrArg (World.drewN _) (Nat.add_assoc _ _ _))⟩))); try go_wp2_with (first | (go_at_call 38; (with_reducible refine (slices_ContainsFunc_string_string.calls _ _ l0_2 39 t106 _ ?side1 ?side2 A19.out).mono ?_); (case side1 => repeat (first | exact (Kd.C_below ys.out HB.out) | (with_reducible refine Kd.C_alloc ?_ _) | (with_reducible refine Kd.C_drewN ?_ _) | (with_reducible refine Kd.C_drew ?_))); (case side2 => exact yt.out); rintro e w' ⟨rfl, ⟨nd, rfl⟩⟩; (try first | exact ⟨rfl, _, World.drewN_drewN _ _ _⟩ | exact ⟨rfl, _, Eq.trans (World.drewN_drewN _ _ _) (congrArg (World.drewN _) (Nat.add_assoc _ _ _))⟩))))
         go_ret
         exact ⟨by first | rfl | (simp [errW_none, errW_some] <;> rfl) | (simp [*, errW_none, errW_some] <;> rfl), by repeat (first | (with_reducible first | exact HB.out | apply wA | apply wN | apply wD | refine wS ?_ zc.out) | exact HB.out)⟩
        ·replace c18 := Bool.eq_false_iff.mpr c18
         subst c18
         have H1 : (some false) = some r := by rw [if_neg (show ¬ (false = true) by decide)] at H; exact H
         clear H
         have H := H1
         clear H1
         obtain rfl := Option.some.inj H
         obtain ⟨zbr, zbs, zbt, zbu, zbv, zbw, zbx, zby⟩ := cells8 (w := wc) za.out
         obtain ⟨zbz, zb0, zb1, zb2, zb3, zb4, zb5, zb6⟩ := frozen8 za.out
         go_wp2
         repeat (go_quiet (fail); try go_wp2)
         go_ret
         exact ⟨by first | rfl | (simp [errW_none, errW_some] <;> rfl) | (simp [*, errW_none, errW_some] <;> rfl), by repeat (first | (with_reducible first | exact HB.out | apply wA | apply wN | apply wD | refine wS ?_ zc.out) | exact HB.out)⟩
       ·rw [if_neg c17] at H
        have c17b0 : ((l0_3.length : Int) == 0) = false := beq_eq_false_iff_ne.mpr c17
        have c17b1 : ((l0_3.length : Int) != 0) = true := bne_iff_ne.mpr c17
        have c17b2 : ¬ (l0_3 = []) := fun h_ => c17 (by rw [h_]; rfl)
        obtain rfl := Option.some.inj H
        obtain ⟨zb7, zb8, zb9, zca, zcb, zcc, zcd, zce⟩ := cells8 (w := wc) za.out
        obtain ⟨zcf, zcg, zch, zci, zcj, zck, zcl, zcm⟩ := frozen8 za.out
        go_wp2
        repeat (go_quiet (fail); try go_wp2)
        go_ret
        exact ⟨by first | rfl | (simp [errW_none, errW_some] <;> rfl) | (simp [*, errW_none, errW_some] <;> rfl), by repeat (first | (with_reducible first | exact HB.out | apply wA | apply wN | apply wD | refine wS ?_ zc.out) | exact HB.out)⟩
      ·rw [if_neg c16] at H
       have c16b0 : ((l0_2.length : Int) == (l0_1.length : Int)) = false := beq_eq_false_iff_ne.mpr c16
       have c16b1 : ((l0_2.length : Int) != (l0_1.length : Int)) = true := bne_iff_ne.mpr c16
       have c16b2 : (l0_2.length == l0_1.length) = false := by first | simpa using c16 | (simp at c16 ⊢; omega)
       obtain rfl := Option.some.inj H
       obtain ⟨zcn, zco, zcp, zcq, zcr, zcs, zct, zcu⟩ := cells8 (w := wc) za.out
       obtain ⟨zcv, zcw, zcx, zcy, zcz, zc0, zc1, zc2⟩ := frozen8 za.out
       go_wp2
       repeat (go_quiet (fail); try go_wp2)
       go_ret
       exact ⟨by first | rfl | (simp [errW_none, errW_some] <;> rfl) | (simp [*, errW_none, errW_some] <;> rfl), by repeat (first | (with_reducible first | exact HB.out | apply wA | apply wN | apply wD | refine wS ?_ zc.out) | exact HB.out)⟩
     ·rw [if_neg c15] at H
      have c15b0 : decide ((l0_1.length : Int) ≤ 6) = false := decide_eq_false c15
      have c15b1 : decide (l0_1.length ≤ 6) = false := decide_eq_false (by omega)
      clear c15
      obtain rfl := Option.some.inj H
      obtain ⟨zc3, zc4, zc5, zc6, zc7, zc8, zc9, zda⟩ := cells8 (w := wc) za.out
      obtain ⟨zdb, zdc, zdd, zde, zdf, zdg, zdh, zdi⟩ := frozen8 za.out
      go_wp2
      repeat (go_quiet (fail); try go_wp2)
      go_ret
      exact ⟨by first | rfl | (simp [errW_none, errW_some] <;> rfl) | (simp [*, errW_none, errW_some] <;> rfl), by repeat (first | (with_reducible first | exact HB.out | apply wA | apply wN | apply wD | refine wS ?_ zc.out) | exact HB.out)⟩
    ·rw [if_neg c14] at H
     have c14b0 : (a0_0 == 1) = false := beq_eq_false_iff_ne.mpr c14
     have c14b1 : (a0_0 != 1) = true := bne_iff_ne.mpr c14
     by_cases c25 : a0_0 = 2
     ·rw [if_pos c25] at H
      have c25b0 : (a0_0 == 2) = true := beq_iff_eq.mpr c25
      have c25b1 : (a0_0 != 2) = false := bne_eq_false_iff_eq.mpr c25
      clear c25
      by_cases c26 : (l0_3.length : Int) ≥ 2
      ·rw [if_pos c26] at H
       have c26b0 : decide (2 ≤ (l0_3.length : Int)) = true := decide_eq_true c26
       have c26b1 : decide (2 ≤ l0_3.length) = true := decide_eq_true (by omega)
       clear c26
       by_cases c27 : (l0_3.length : Int) ≤ 8
       ·rw [if_pos c27] at H
        have c27b0 : decide ((l0_3.length : Int) ≤ 8) = true := decide_eq_true c27
        have c27b1 : decide (l0_3.length ≤ 8) = true := decide_eq_true (by omega)
        clear c27
        by_cases c28 : (l0_1.length : Int) = (wrap64 ((l0_3.length : Int) - 1))
        ·rw [if_pos c28] at H
         have c28b0 : ((l0_1.length : Int) == (wrap64 ((l0_3.length : Int) - 1))) = true := beq_iff_eq.mpr c28
         have c28b1 : ((l0_1.length : Int) != (wrap64 ((l0_3.length : Int) - 1))) = false := bne_eq_false_iff_eq.mpr c28
         clear c28
         by_cases c29 : (l0_2.length : Int) = 0
         ·rw [if_pos c29] at H
          have c29b0 : ((l0_2.length : Int) == 0) = true := beq_iff_eq.mpr c29
          have c29b1 : ((l0_2.length : Int) != 0) = false := bne_eq_false_iff_eq.mpr c29
          clear c29
          by_cases c30 : zz = true
          ·subst c30
           have H1 : ((slices_ContainsFunc_int_int.f l0_3 41).bind fun t107 => (some (!t107))) = some r := by rw [if_pos rfl] at H; exact H
           clear H
           have H := H1
           clear H1
           replace H := Option.bind_eq_some_iff.mp H
           obtain ⟨t107, A310, H⟩ := H
           replace H : (some (!t107)) = some r := H
           have A31 := Aside0.mk A310
           clear A310
           obtain rfl := Option.some.inj H
           obtain ⟨zdj, zdk, zdl, zdm, zdn, zdo, zdp, zdq⟩ := cells8 (w := wc) za.out
           obtain ⟨zdr, zds, zdt, zdu, zdv, zdw, zdx, zdy⟩ := frozen8 za.out
           go_wp2_with (first | (go_at_call 40; (with_reducible refine (slices_ContainsFunc_int_int.calls _ _ l0_3 41 t107 _ ?side1 ?side2 A31.out).mono ?_); (case side1 => repeat (first | exact (Kd.C_below yu.out HB.out) | (with_reducible refine Kd.C_alloc ?_ _) | (with_reducible refine Kd.C_drewN ?_ _) | (with_reducible refine Kd.C_drew ?_))); (case side2 => exact yv.out); rintro e w' ⟨rfl, ⟨nd, rfl⟩⟩; (try first | exact ⟨rfl, _, World.drewN_drewN _ _ _⟩ | exact ⟨rfl, _, Eq.trans (World.drewN_drewN _ _ _) (congrArg (World.drewN _) (Nat.add_assoc _ _ _))⟩)))
           repeat (go_quiet (first | (go_at_call 40; (with_reducible refine (slices_ContainsFunc_int_int.calls _ _ l0_3 41 t107 _ ?side1 ?side2 A31.out).mono ?_); (case side1 => repeat (first | exact (Kd.C_below yu.out HB.out) | (with_reducible refine Kd.C_alloc ?_ _) | (with_reducible refine Kd.C_drewN ?_ _) | (with_reducible refine Kd.C_drew ?_))); (case side2 => exact yv.out); rintro e w' ⟨rfl, ⟨nd, rfl⟩⟩; (try first | exact ⟨rfl, _, World.drewN_drewN _ _ _⟩ | exact ⟨rfl, _, Eq.trans (World.drewN_drewN _ _ _) (congrArg (World.drewN _) (Nat.add_assoc _ _ _))⟩))); try go_wp2_with (first | (go_at_call 40; (with_reducible refine (slices_ContainsFunc_int_int.calls _ _ l0_3 41 t107 _ ?side1 ?side2 A31.out).mono ?_); (case side1 => repeat (first | exact (Kd.C_below yu.out HB.out) | (with_reducible refine Kd.C_alloc ?_ _) | (with_reducible refine Kd.C_drewN ?_ _) | (with_reducible refine Kd.C_drew ?_))); (case side2 => exact yv.out); rintro e w' ⟨rfl, ⟨nd, rfl⟩⟩; (try first | exact ⟨rfl, _, World.drewN_drewN _ _ _⟩ | exact ⟨rfl, _, Eq.trans (World.drewN_drewN _ _ _) (congrArg (World.drewN _) (Nat.add_assoc _ _ _))⟩))))
           go_ret
           exact ⟨by first | rfl | (simp [errW_none, errW_some] <;> rfl) | (simp [*, errW_none, errW_some] <;> rfl), by repeat (first | (with_reducible first | exact HB.out | apply wA | apply wN | apply wD | refine wS ?_ zc.out) | exact HB.out)⟩
          ·replace c30 := Bool.eq_false_iff.mpr c30
           subst c30
           have H1 : (some false) = some r := by rw [if_neg (show ¬ (false = true) by decide)] at H; exact H
           clear H
           have H := H1
           clear H1
           obtain rfl := Option.some.inj H
           obtain ⟨zdz, zd0, zd1, zd2, zd3, zd4, zd5, zd6⟩ := cells8 (w := wc) za.out
           obtain ⟨zd7, zd8, zd9, zea, zeb, zec, zed, zee⟩ := frozen8 za.out
           go_wp2
           repeat (go_quiet (fail); try go_wp2)
           go_ret
           exact ⟨by first | rfl | (simp [errW_none, errW_some] <;> rfl) | (simp [*, errW_none, errW_some] <;> rfl), by repeat (first | (with_reducible first | exact HB.out | apply wA | apply wN | apply wD | refine wS ?_ zc.out) | exact HB.out)⟩
         ·rw [if_neg c29] at H
          have c29b0 : ((l0_2.length : Int) == 0) = false := beq_eq_false_iff_ne.mpr c29
          have c29b1 : ((l0_2.length : Int) != 0) = true := bne_iff_ne.mpr c29
          have c29b2 : ¬ (l0_2 = []) := fun h_ => c29 (by rw [h_]; rfl)
          obtain rfl := Option.some.inj H
          obtain ⟨zef, zeg, zeh, zei, zej, zek, zel, zem⟩ := cells8 (w := wc) za.out
          obtain ⟨zen, zeo, zep, zeq, zer, zes, zet, zeu⟩ := frozen8 za.out
          go_wp2
          repeat (go_quiet (fail); try go_wp2)
          go_ret
          exact ⟨by first | rfl | (simp [errW_none, errW_some] <;> rfl) | (simp [*, errW_none, errW_some] <;> rfl), by repeat (first | (with_reducible first | exact HB.out | apply wA | apply wN | apply wD | refine wS ?_ zc.out) | exact HB.out)⟩
        ·rw [if_neg c28] at H
         have c28b0 : ((l0_1.length : Int) == (wrap64 ((l0_3.length : Int) - 1))) = false := beq_eq_false_iff_ne.mpr c28
         have c28b1 : ((l0_1.length : Int) != (wrap64 ((l0_3.length : Int) - 1))) = true := bne_iff_ne.mpr c28
         obtain rfl := Option.some.inj H
         obtain ⟨zev, zew, zex, zey, zez, ze0, ze1, ze2⟩ := cells8 (w := wc) za.out
         obtain ⟨ze3, ze4, ze5, ze6, ze7, ze8, ze9, zfa⟩ := frozen8 za.out
         go_wp2
         repeat (go_quiet (fail); try go_wp2)
         go_ret
         exact ⟨by first | rfl | (simp [errW_none, errW_some] <;> rfl) | (simp [*, errW_none, errW_some] <;> rfl), by repeat (first | (with_reducible first | exact HB.out | apply wA | apply wN | apply wD | refine wS ?_ zc.out) | exact HB.out)⟩
       ·rw [if_neg c27] at H
        have c27b0 : decide ((l0_3.length : Int) ≤ 8) = false := decide_eq_false c27
        have c27b1 : decide (l0_3.length ≤ 8) = false := decide_eq_false (by omega)
        clear c27
        obtain rfl := Option.some.inj H
        obtain ⟨zfb, zfc, zfd, zfe, zff, zfg, zfh, zfi⟩ := cells8 (w := wc) za.out
        obtain ⟨zfj, zfk, zfl, zfm, zfn, zfo, zfp, zfq⟩ := frozen8 za.out
        go_wp2
        repeat (go_quiet (fail); try go_wp2)
        go_ret
        exact ⟨by first | rfl | (simp [errW_none, errW_some] <;> rfl) | (simp [*, errW_none, errW_some] <;> rfl), by repeat (first | (with_reducible first | exact HB.out | apply wA | apply wN | apply wD | refine wS ?_ zc.out) | exact HB.out)⟩
      ·rw [if_neg c26] at H
       have c26b0 : decide (2 ≤ (l0_3.length : Int)) = false := decide_eq_false c26
       have c26b1 : decide (2 ≤ l0_3.length) = false := decide_eq_false (by omega)
       clear c26
       obtain rfl := Option.some.inj H
       obtain ⟨zfr, zfs, zft, zfu, zfv, zfw, zfx, zfy⟩ := cells8 (w := wc) za.out
       obtain ⟨zfz, zf0, zf1, zf2, zf3, zf4, zf5, zf6⟩ := frozen8 za.out
       go_wp2
       repeat (go_quiet (fail); try go_wp2)
       go_ret
       exact ⟨by first | rfl | (simp [errW_none, errW_some] <;> rfl) | (simp [*, errW_none, errW_some] <;> rfl), by repeat (first | (with_reducible first | exact HB.out | apply wA | apply wN | apply wD | refine wS ?_ zc.out) | exact HB.out)⟩
     ·rw [if_neg c25] at H
      have c25b0 : (a0_0 == 2) = false := beq_eq_false_iff_ne.mpr c25
      have c25b1 : (a0_0 != 2) = true := bne_iff_ne.mpr c25
      by_cases c38 : a0_0 = 3
      ·rw [if_pos c38] at H
       have c38b0 : (a0_0 == 3) = true := beq_iff_eq.mpr c38
       have c38b1 : (a0_0 != 3) = false := bne_eq_false_iff_eq.mpr c38
       clear c38
       by_cases c39 : (wrap64 ((wrap64 ((l0_1.length : Int) + (l0_2.length : Int))) + (l0_3.length : Int))) = 0
       ·rw [if_pos c39] at H
        have c39b0 : ((wrap64 ((wrap64 ((l0_1.length : Int) + (l0_2.length : Int))) + (l0_3.length : Int))) == 0) = true := beq_iff_eq.mpr c39
        have c39b1 : ((wrap64 ((wrap64 ((l0_1.length : Int) + (l0_2.length : Int))) + (l0_3.length : Int))) != 0) = false := bne_eq_false_iff_eq.mpr c39
        clear c39
        replace H := Option.bind_eq_some_iff.mp H
        obtain ⟨t108, A400, H⟩ := H
        replace H : (if t108 = true then ((page_in.f a0_5).bind fun t109 => (if t109 = true then (if a0_6 ≥ 0 then (if a0_6 ≤ 65536 then (if a0_7 ≥ 0 then (some (decide (a0_7 ≤ a0_6))) else (some false)) else (some false)) else (some false)) else (some false))) else (some false)) = some r := H
        have A40 := Aside0.mk A400
        clear A400
        by_cases c41 : t108 = true
        ·subst c41
         have H1 : ((page_in.f a0_5).bind fun t109 => (if t109 = true then (if a0_6 ≥ 0 then (if a0_6 ≤ 65536 then (if a0_7 ≥ 0 then (some (decide (a0_7 ≤ a0_6))) else (some false)) else (some false)) else (some false)) else (some false))) = some r := by rw [if_pos rfl] at H; exact H
         clear H
         have H := H1
         clear H1
         replace H := Option.bind_eq_some_iff.mp H
         obtain ⟨t109, A420, H⟩ := H
         replace H : (if t109 = true then (if a0_6 ≥ 0 then (if a0_6 ≤ 65536 then (if a0_7 ≥ 0 then (some (decide (a0_7 ≤ a0_6))) else (some false)) else (some false)) else (some false)) else (some false)) = some r := H
         have A42 := Aside0.mk A420
         clear A420
         by_cases c43 : t109 = true
         ·subst c43
          have H1 : (if a0_6 ≥ 0 then (if a0_6 ≤ 65536 then (if a0_7 ≥ 0 then (some (decide (a0_7 ≤ a0_6))) else (some false)) else (some false)) else (some false)) = some r := by rw [if_pos rfl] at H; exact H
          clear H
          have H := H1
          clear H1
          by_cases c44 : a0_6 ≥ 0
          ·rw [if_pos c44] at H
           have c44b0 : decide (0 ≤ a0_6) = true := decide_eq_true c44
           clear c44
           by_cases c45 : a0_6 ≤ 65536
           ·rw [if_pos c45] at H
            have c45b0 : decide (a0_6 ≤ 65536) = true := decide_eq_true c45
            clear c45
            by_cases c46 : a0_7 ≥ 0
            ·rw [if_pos c46] at H
             have c46b0 : decide (0 ≤ a0_7) = true := decide_eq_true c46
             clear c46
             obtain rfl := Option.some.inj H
             obtain ⟨zf7, zf8, zf9, zga, zgb, zgc, zgd, zge⟩ := cells8 (w := wc) za.out
             obtain ⟨zgf, zgg, zgh, zgi, zgj, zgk, zgl, zgm⟩ := frozen8 za.out
             go_wp2_with (first | (go_at_call 42; (with_reducible refine (page_in.calls a0_4 true _ A40.out).mono ?_); rintro e w' ⟨rfl, ⟨nd, rfl⟩⟩; (try first | exact ⟨rfl, _, World.drewN_drewN _ _ _⟩ | exact ⟨rfl, _, Eq.trans (World.drewN_drewN _ _ _) (congrArg (World.drewN _) (Nat.add_assoc _ _ _))⟩)) | (go_at_call 42; (with_reducible refine (page_in.calls a0_5 true _ A42.out).mono ?_); rintro e w' ⟨rfl, ⟨nd, rfl⟩⟩; (try first | exact ⟨rfl, _, World.drewN_drewN _ _ _⟩ | exact ⟨rfl, _, Eq.trans (World.drewN_drewN _ _ _) (congrArg (World.drewN _) (Nat.add_assoc _ _ _))⟩)))
             repeat (go_quiet (first | (go_at_call 42; (with_reducible refine (page_in.calls a0_4 true _ A40.out).mono ?_); rintro e w' ⟨rfl, ⟨nd, rfl⟩⟩; (try first | exact ⟨rfl, _, World.drewN_drewN _ _ _⟩ | exact ⟨rfl, _, Eq.trans (World.drewN_drewN _ _ _) (congrArg (World.drewN _) (Nat.add_assoc _ _ _))⟩)) | (go_at_call 42; (with_reducible refine (page_in.calls a0_5 true _ A42.out).mono ?_); rintro e w' ⟨rfl, ⟨nd, rfl⟩⟩; (try first | exact ⟨rfl, _, World.drewN_drewN _ _ _⟩ | exact ⟨rfl, _, Eq.trans (World.drewN_drewN _ _ _) (congrArg (World.drewN _) (Nat.add_assoc _ _ _))⟩))); try go_wp2_with (first | (go_at_call 42; (with_reducible refine (page_in.calls a0_4 true _ A40.out).mono ?_); rintro e w' ⟨rfl, ⟨nd, rfl⟩⟩; (try first | exact ⟨rfl, _, World.drewN_drewN _ _ _⟩ | exact ⟨rfl, _, Eq.trans (World.drewN_drewN _ _ _) (congrArg (World.drewN _) (Nat.add_assoc _ _ _))⟩)) | (go_at_call 42; (with_reducible refine (page_in.calls a0_5 true _ A42.out).mono ?_); rintro e w' ⟨rfl, ⟨nd, rfl⟩⟩; (try first | exact ⟨rfl, _, World.drewN_drewN _ _ _⟩ | exact ⟨rfl, _, Eq.trans (World.drewN_drewN _ _ _) (congrArg (World.drewN _) (Nat.add_assoc _ _ _))⟩))))
             go_ret
             exact ⟨by first | rfl | (simp [errW_none, errW_some] <;> rfl) | (simp [*, errW_none, errW_some] <;> rfl), by repeat (first | (with_reducible first | exact HB.out | apply wA | apply wN | apply wD | refine wS ?_ zc.out) | exact HB.out)⟩
            ·rw [if_neg c46] at H
             have c46b0 : decide (0 ≤ a0_7) = false := decide_eq_false c46
             clear c46
             obtain rfl := Option.some.inj H
             obtain ⟨zgn, zgo, zgp, zgq, zgr, zgs, zgt, zgu⟩ := cells8 (w := wc) za.out
             obtain ⟨zgv, zgw, zgx, zgy, zgz, zg0, zg1, zg2⟩ := frozen8 za.out
             go_wp2_with (first | (go_at_call 42; (with_reducible refine (page_in.calls a0_4 true _ A40.out).mono ?_); rintro e w' ⟨rfl, ⟨nd, rfl⟩⟩; (try first | exact ⟨rfl, _, World.drewN_drewN _ _ _⟩ | exact ⟨rfl, _, Eq.trans (World.drewN_drewN _ _ _) (congrArg (World.drewN _) (Nat.add_assoc _ _ _))⟩)) | (go_at_call 42; (with_reducible refine (page_in.calls a0_5 true _ A42.out).mono ?_); rintro e w' ⟨rfl, ⟨nd, rfl⟩⟩; (try first | exact ⟨rfl, _, World.drewN_drewN _ _ _⟩ | exact ⟨rfl, _, Eq.trans (World.drewN_drewN _ _ _) (congrArg (World.drewN _) (Nat.add_assoc _ _ _))⟩)))
             repeat (go_quiet (first | (go_at_call 42; (with_reducible refine (page_in.calls a0_4 true _ A40.out).mono ?_); rintro e w' ⟨rfl, ⟨nd, rfl⟩⟩; (try first | exact ⟨rfl, _, World.drewN_drewN _ _ _⟩ | exact ⟨rfl, _, Eq.trans (World.drewN_drewN _ _ _) (congrArg (World.drewN _) (Nat.add_assoc _ _ _))⟩)) | (go_at_call 42; (with_reducible refine (page_in.calls a0_5 true _ A42.out).mono ?_); rintro e w' ⟨rfl, ⟨nd, rfl⟩⟩; (try first | exact ⟨rfl, _, World.drewN_drewN _ _ _⟩ | exact ⟨rfl, _, Eq.trans (World.drewN_drewN _ _ _) (congrArg (World.drewN _) (Nat.add_assoc _ _ _))⟩))); try go_wp2_with (first | (go_at_call 42; (with_reducible refine (page_in.calls a0_4 true _ A40.out).mono ?_); rintro e w' ⟨rfl, ⟨nd, rfl⟩⟩; (try first | exact ⟨rfl, _, World.drewN_drewN _ _ _⟩ | exact ⟨rfl, _, Eq.trans (World.drewN_drewN _ _ _) (congrArg (World.drewN _) (Nat.add_assoc _ _ _))⟩)) | (go_at_call 42; (with_reducible refine (page_in.calls a0_5 true _ A42.out).mono ?_); rintro e w' ⟨rfl, ⟨nd, rfl⟩⟩; (try first | exact ⟨rfl, _, World.drewN_drewN _ _ _⟩ | exact ⟨rfl, _, Eq.trans (World.drewN_drewN _ _ _) (congrArg (World.drewN _) (Nat.add_assoc _ _ _))⟩))))
             go_ret
             exact ⟨by first | rfl | (simp [errW_none, errW_some] <;> rfl) | (simp [*, errW_none, errW_some] <;> rfl), by repeat (first | (with_reducible first | exact HB.out | apply wA | apply wN | apply wD | refine wS ?_ zc.out) | exact HB.out)⟩
           ·rw [if_neg c45] at H
            have c45b0 : decide (a0_6 ≤ 65536) = false := decide_eq_false c45
            clear c45
            obtain rfl := Option.some.inj H
            obtain ⟨zg3, zg4, zg5, zg6, zg7, zg8, zg9, zha⟩ := cells8 (w := wc) za.out
            obtain ⟨zhb, zhc, zhd, zhe, zhf, zhg, zhh, zhi⟩ := frozen8 za.out
            go_wp2_with (first | (go_at_call 42; (with_reducible refine (page_in.calls a0_4 true _ A40.out).mono ?_); rintro e w' ⟨rfl, ⟨nd, rfl⟩⟩; (try first | exact ⟨rfl, _, World.drewN_drewN _ _ _⟩ | exact ⟨rfl, _, Eq.trans (World.drewN_drewN _ _ _) (congrArg (World.drewN _) (Nat.add_assoc _ _ _))⟩)) | (go_at_call 42; (with_reducible refine (page_in.calls a0_5 true _ A42.out).mono ?_); rintro e w' ⟨rfl, ⟨nd, rfl⟩⟩; (try first | exact ⟨rfl, _, World.drewN_drewN _ _ _⟩ | exact ⟨rfl, _, Eq.trans (World.drewN_drewN _ _ _) (congrArg (World.drewN _) (Nat.add_assoc _ _ _))⟩)))
            repeat (go_quiet (first | (go_at_call 42; (with_reducible refine (page_in.calls a0_4 true _ A40.out).mono ?_); rintro e w' ⟨rfl, ⟨nd, rfl⟩⟩; (try first | exact ⟨rfl, _, World.drewN_drewN _ _ _⟩ | exact ⟨rfl, _, Eq.trans (World.drewN_drewN _ _ _) (congrArg (World.drewN _) (Nat.add_assoc _ _ _))⟩)) | (go_at_call 42; (with_reducible refine (page_in.calls a0_5 true _ A42.out).mono ?_); rintro e w' ⟨rfl, ⟨nd, rfl⟩⟩; (try first | exact ⟨rfl, _, World.drewN_drewN _ _ _⟩ | exact ⟨rfl, _, Eq.trans (World.drewN_drewN _ _ _) (congrArg (World.drewN _) (Nat.add_assoc _ _ _))⟩))); try go_wp2_with (first | (go_at_call 42; (with_reducible refine (page_in.calls a0_4 true _ A40.out).mono ?_); rintro e w' ⟨rfl, ⟨nd, rfl⟩⟩; (try first | exact ⟨rfl, _, World.drewN_drewN _ _ _⟩ | exact ⟨rfl, _, Eq.trans (World.drewN_drewN _ _ _) (congrArg (World.drewN _) (Nat.add_assoc _ _ _))⟩)) | (go_at_call 42; (with_reducible refine (page_in.calls a0_5 true _ A42.out).mono ?_); rintro e w' ⟨rfl, ⟨nd, rfl⟩⟩; (try first | exact ⟨rfl, _, World.drewN_drewN _ _ _⟩ | exact ⟨rfl, _, Eq.trans (World.drewN_drewN _ _ _) (congrArg (World.drewN _) (Nat.add_assoc _ _ _))⟩))))
            go_ret
            exact ⟨by first | rfl | (simp [errW_none, errW_some] <;> rfl) | (simp [*, errW_none, errW_some] <;> rfl), by repeat (first | (with_reducible first | exact HB.out | apply wA | apply wN | apply wD | refine wS ?_ zc.out) | exact HB.out)⟩
          ·rw [if_neg c44] at H
           have c44b0 : decide (0 ≤ a0_6) = false := decide_eq_false c44
           clear c44
           obtain rfl := Option.some.inj H
           obtain ⟨zhj, zhk, zhl, zhm, zhn, zho, zhp, zhq⟩ := cells8 (w := wc) za.out
           obtain ⟨zhr, zhs, zht, zhu, zhv, zhw, zhx, zhy⟩ := frozen8 za.out
           go_wp2_with (first | (go_at_call 42; (with_reducible refine (page_in.calls a0_4 true _ A40.out).mono ?_); rintro e w' ⟨rfl, ⟨nd, rfl⟩⟩; (try first | exact ⟨rfl, _, World.drewN_drewN _ _ _⟩ | exact ⟨rfl, _, Eq.trans (World.drewN_drewN _ _ _) (congrArg (World.drewN _) (Nat.add_assoc _ _ _))⟩)) | (go_at_call 42; (with_reducible refine (page_in.calls a0_5 true _ A42.out).mono ?_); rintro e w' ⟨rfl, ⟨nd, rfl⟩⟩; (try first | exact ⟨rfl, _, World.drewN_drewN _ _ _⟩ | exact ⟨rfl, _, Eq.trans (World.drewN_drewN _ _ _) (congrArg (World.drewN _) (Nat.add_assoc _ _ _))⟩)))
           repeat (go_quiet (first | (go_at_call 42; (with_reducible refine (page_in.calls a0_4 true _ A40.out).mono ?_); rintro e w' ⟨rfl, ⟨nd, rfl⟩⟩; (try first | exact ⟨rfl, _, World.drewN_drewN _ _ _⟩ | exact ⟨rfl, _, Eq.trans (World.drewN_drewN _ _ _) (congrArg (World.drewN _) (Nat.add_assoc _ _ _))⟩)) | (go_at_call 42; (with_reducible refine (page_in.calls a0_5 true _ A42.out).mono ?_); rintro e w' ⟨rfl, ⟨nd, rfl⟩⟩; (try first | exact ⟨rfl, _, World.drewN_drewN _ _ _⟩ | exact ⟨rfl, _, Eq.trans (World.drewN_drewN _ _ _) (congrArg (World.drewN _) (Nat.add_assoc _ _ _))⟩))); try go_wp2_with (first | (go_at_call 42; (with_reducible refine (page_in.calls a0_4 true _ A40.out).mono ?_); rintro e w' ⟨rfl, ⟨nd, rfl⟩⟩; (try first | exact ⟨rfl, _, World.drewN_drewN _ _ _⟩ | exact ⟨rfl, _, Eq.trans (World.drewN_drewN _ _ _) (congrArg (World.drewN _) (Nat.add_assoc _ _ _))⟩)) | (go_at_call 42; (with_reducible refine (page_in.calls a0_5 true _ A42.out).mono ?_); rintro e w' ⟨rfl, ⟨nd, rfl⟩⟩; (try first | exact ⟨rfl, _, World.drewN_drewN _ _ _⟩ | exact ⟨rfl, _, Eq.trans (World.drewN_drewN _ _ _) (congrArg (World.drewN _) (Nat.add_assoc _ _ _))⟩))))
           go_ret
           exact ⟨by first | rfl | (simp [errW_none, errW_some] <;> rfl) | (simp [*, errW_none, errW_some] <;> rfl), by repeat (first | (with_reducible first | exact HB.out | apply wA | apply wN | apply wD | refine wS ?_ zc.out) | exact HB.out)⟩
         ·replace c43 := Bool.eq_false_iff.mpr c43
          subst c43
          have H1 : (some false) = some r := by rw [if_neg (show ¬ (false = true) by decide)] at H; exact H
          clear H
          have H := H1
          clear H1
          obtain rfl := Option.some.inj H
          obtain ⟨zhz, zh0, zh1, zh2, zh3, zh4, zh5, zh6⟩ := cells8 (w := wc) za.out
          obtain ⟨zh7, zh8, zh9, zia, zib, zic, zid, zie⟩ := frozen8 za.out
          go_wp2_with (first | (go_at_call 42; (with_reducible refine (page_in.calls a0_4 true _ A40.out).mono ?_); rintro e w' ⟨rfl, ⟨nd, rfl⟩⟩; (try first | exact ⟨rfl, _, World.drewN_drewN _ _ _⟩ | exact ⟨rfl, _, Eq.trans (World.drewN_drewN _ _ _) (congrArg (World.drewN _) (Nat.add_assoc _ _ _))⟩)) | (go_at_call 42; (with_reducible refine (page_in.calls a0_5 false _ A42.out).mono ?_); rintro e w' ⟨rfl, ⟨nd, rfl⟩⟩; (try first | exact ⟨rfl, _, World.drewN_drewN _ _ _⟩ | exact ⟨rfl, _, Eq.trans (World.drewN_drewN _ _ _) (congrArg (World.drewN _) (Nat.add_assoc _ _ _))⟩)))
          repeat (go_quiet (first | (go_at_call 42; (with_reducible refine (page_in.calls a0_4 true _ A40.out).mono ?_); rintro e w' ⟨rfl, ⟨nd, rfl⟩⟩; (try first | exact ⟨rfl, _, World.drewN_drewN _ _ _⟩ | exact ⟨rfl, _, Eq.trans (World.drewN_drewN _ _ _) (congrArg (World.drewN _) (Nat.add_assoc _ _ _))⟩)) | (go_at_call 42; (with_reducible refine (page_in.calls a0_5 false _ A42.out).mono ?_); rintro e w' ⟨rfl, ⟨nd, rfl⟩⟩; (try first | exact ⟨rfl, _, World.drewN_drewN _ _ _⟩ | exact ⟨rfl, _, Eq.trans (World.drewN_drewN _ _ _) (congrArg (World.drewN _) (Nat.add_assoc _ _ _))⟩))); try go_wp2_with (first | (go_at_call 42; (with_reducible refine (page_in.calls a0_4 true _ A40.out).mono ?_); rintro e w' ⟨rfl, ⟨nd, rfl⟩⟩; (try first | exact ⟨rfl, _, World.drewN_drewN _ _ _⟩ | exact ⟨rfl, _, Eq.trans (World.drewN_drewN _ _ _) (congrArg (World.drewN _) (Nat.add_assoc _ _ _))⟩)) | (go_at_call 42; (with_reducible refine (page_in.calls a0_5 false _ A42.out).mono ?_); rintro e w' ⟨rfl, ⟨nd, rfl⟩⟩; (try first | exact ⟨rfl, _, World.drewN_drewN _ _ _⟩ | exact ⟨rfl, _, Eq.trans (World.drewN_drewN _ _ _) (congrArg (World.drewN _) (Nat.add_assoc _ _ _))⟩))))
          go_ret
          exact ⟨by first | rfl | (simp [errW_none, errW_some] <;> rfl) | (simp [*, errW_none, errW_some] <;> rfl), by repeat (first | (with_reducible first | exact HB.out | apply wA | apply wN | apply wD | refine wS ?_ zc.out) | exact HB.out)⟩
        ·replace c41 := Bool.eq_false_iff.mpr c41
         subst c41
         have H1 : (some false) = some r := by rw [if_neg (show ¬ (false = true) by decide)] at H; exact H
         clear H
         have H := H1
         clear H1
         obtain rfl := Option.some.inj H
         obtain ⟨zif, zig, zih, zii, zij, zik, zil, zim⟩ := cells8 (w := wc) za.out
         obtain ⟨zin, zio, zip, ziq, zir, zis, zit, ziu⟩ := frozen8 za.out
         go_wp2_with (first | (go_at_call 42; (with_reducible refine (page_in.calls a0_4 false _ A40.out).mono ?_); rintro e w' ⟨rfl, ⟨nd, rfl⟩⟩; (try first | exact ⟨rfl, _, World.drewN_drewN _ _ _⟩ | exact ⟨rfl, _, Eq.trans (World.drewN_drewN _ _ _) (congrArg (World.drewN _) (Nat.add_assoc _ _ _))⟩)))
         repeat (go_quiet (first | (go_at_call 42; (with_reducible refine (page_in.calls a0_4 false _ A40.out).mono ?_); rintro e w' ⟨rfl, ⟨nd, rfl⟩⟩; (try first | exact ⟨rfl, _, World.drewN_drewN _ _ _⟩ | exact ⟨rfl, _, Eq.trans (World.drewN_drewN _ _ _) (congrArg (World.drewN _) (Nat.add_assoc _ _ _))⟩))); try go_wp2_with (first | (go_at_call 42; (with_reducible refine (page_in.calls a0_4 false _ A40.out).mono ?_); rintro e w' ⟨rfl, ⟨nd, rfl⟩⟩; (try first | exact ⟨rfl, _, World.drewN_drewN _ _ _⟩ | exact ⟨rfl, _, Eq.trans (World.drewN_drewN _ _ _) (congrArg (World.drewN _) (Nat.add_assoc _ _ _))⟩))))
         go_ret
         exact ⟨by first | rfl | (simp [errW_none, errW_some] <;> rfl) | (simp [*, errW_none, errW_some] <;> rfl), by repeat (first | (with_reducible first | exact HB.out | apply wA | apply wN | apply wD | refine wS ?_ zc.out) | exact HB.out)⟩
       ·rw [if_neg c39] at H
        have c39b0 : ((wrap64 ((wrap64 ((l0_1.length : Int) + (l0_2.length : Int))) + (l0_3.length : Int))) == 0) = false := beq_eq_false_iff_ne.mpr c39
        have c39b1 : ((wrap64 ((wrap64 ((l0_1.length : Int) + (l0_2.length : Int))) + (l0_3.length : Int))) != 0) = true := bne_iff_ne.mpr c39
        obtain rfl := Option.some.inj H
        obtain ⟨ziv, ziw, zix, ziy, ziz, zi0, zi1, zi2⟩ := cells8 (w := wc) za.out
        obtain ⟨zi3, zi4, zi5, zi6, zi7, zi8, zi9, zja⟩ := frozen8 za.out
        go_wp2
        repeat (go_quiet (fail); try go_wp2)
        go_ret
        exact ⟨by first | rfl | (simp [errW_none, errW_some] <;> rfl) | (simp [*, errW_none, errW_some] <;> rfl), by repeat (first | (with_reducible first | exact HB.out | apply wA | apply wN | apply wD | refine wS ?_ zc.out) | exact HB.out)⟩
      ·rw [if_neg c38] at H
       have c38b0 : (a0_0 == 3) = false := beq_eq_false_iff_ne.mpr c38
       have c38b1 : (a0_0 != 3) = true := bne_iff_ne.mpr c38
       by_cases c54 : a0_0 = 4
       ·rw [if_pos c54] at H
        have c54b0 : (a0_0 == 4) = true := beq_iff_eq.mpr c54
        have c54b1 : (a0_0 != 4) = false := bne_eq_false_iff_eq.mpr c54
        clear c54
        by_cases c55 : (wrap64 ((wrap64 ((l0_1.length : Int) + (l0_2.length : Int))) + (l0_3.length : Int))) = 0
        ·rw [if_pos c55] at H
         have c55b0 : ((wrap64 ((wrap64 ((l0_1.length : Int) + (l0_2.length : Int))) + (l0_3.length : Int))) == 0) = true := beq_iff_eq.mpr c55
         have c55b1 : ((wrap64 ((wrap64 ((l0_1.length : Int) + (l0_2.length : Int))) + (l0_3.length : Int))) != 0) = false := bne_eq_false_iff_eq.mpr c55
         clear c55
         by_cases c56 : a0_4 = 0
         ·rw [if_pos c56] at H
          have c56b0 : (a0_4 == 0) = true := beq_iff_eq.mpr c56
          have c56b1 : (a0_4 != 0) = false := bne_eq_false_iff_eq.mpr c56
          clear c56
          replace H := Option.bind_eq_some_iff.mp H
          obtain ⟨t110, A570, H⟩ := H
          replace H : (if t110 = true then (if a0_6 = 0 then (some (a0_7 == 0)) else (some false)) else (some false)) = some r := H
          have A57 := Aside0.mk A570
          clear A570
          by_cases c58 : t110 = true
          ·subst c58
           have H1 : (if a0_6 = 0 then (some (a0_7 == 0)) else (some false)) = some r := by rw [if_pos rfl] at H; exact H
           clear H
           have H := H1
           clear H1
           by_cases c59 : a0_6 = 0
           ·rw [if_pos c59] at H
            have c59b0 : (a0_6 == 0) = true := beq_iff_eq.mpr c59
            have c59b1 : (a0_6 != 0) = false := bne_eq_false_iff_eq.mpr c59
            clear c59
            obtain rfl := Option.some.inj H
            obtain ⟨zjb, zjc, zjd, zje, zjf, zjg, zjh, zji⟩ := cells8 (w := wc) za.out
            obtain ⟨zjj, zjk, zjl, zjm, zjn, zjo, zjp, zjq⟩ := frozen8 za.out
            go_wp2_with (first | (go_at_call 42; (with_reducible refine (page_in.calls a0_5 true _ A57.out).mono ?_); rintro e w' ⟨rfl, ⟨nd, rfl⟩⟩; (try first | exact ⟨rfl, _, World.drewN_drewN _ _ _⟩ | exact ⟨rfl, _, Eq.trans (World.drewN_drewN _ _ _) (congrArg (World.drewN _) (Nat.add_assoc _ _ _))⟩)))
            repeat (go_quiet (first | (go_at_call 42; (with_reducible refine (page_in.calls a0_5 true _ A57.out).mono ?_); rintro e w' ⟨rfl, ⟨nd, rfl⟩⟩; (try first | exact ⟨rfl, _, World.drewN_drewN _ _ _⟩ | exact ⟨rfl, _, Eq.trans (World.drewN_drewN _ _ _) (congrArg (World.drewN _) (Nat.add_assoc _ _ _))⟩))); try go_wp2_with (first | (go_at_call 42; (with_reducible refine (page_in.calls a0_5 true _ A57.out).mono ?_); rintro e w' ⟨rfl, ⟨nd, rfl⟩⟩; (try first | exact ⟨rfl, _, World.drewN_drewN _ _ _⟩ | exact ⟨rfl, _, Eq.trans (World.drewN_drewN _ _ _) (congrArg (World.drewN _) (Nat.add_assoc _ _ _))⟩))))
            go_ret
            exact ⟨by first | rfl | (simp [errW_none, errW_some] <;> rfl) | (simp [*, errW_none, errW_some] <;> rfl), by repeat (first | (with_reducible first | exact HB.out | apply wA | apply wN | apply wD | refine wS ?_ zc.out) | exact HB.out)⟩
           ·rw [if_neg c59] at H
            have c59b0 : (a0_6 == 0) = false := beq_eq_false_iff_ne.mpr c59
            have c59b1 : (a0_6 != 0) = true := bne_iff_ne.mpr c59
            obtain rfl := Option.some.inj H
            obtain ⟨zjr, zjs, zjt, zju, zjv, zjw, zjx, zjy⟩ := cells8 (w := wc) za.out
            obtain ⟨zjz, zj0, zj1, zj2, zj3, zj4, zj5, zj6⟩ := frozen8 za.out
            go_wp2_with (first | (go_at_call 42; (with_reducible refine (page_in.calls a0_5 true _ A57.out).mono ?_); rintro e w' ⟨rfl, ⟨nd, rfl⟩⟩; (try first | exact ⟨rfl, _, World.drewN_drewN _ _ _⟩ | exact ⟨rfl, _, Eq.trans (World.drewN_drewN _ _ _) (congrArg (World.drewN _) (Nat.add_assoc _ _ _))⟩)))
            repeat (go_quiet (first | (go_at_call 42; (with_reducible refine (page_in.calls a0_5 true _ A57.out).mono ?_); rintro e w' ⟨rfl, ⟨nd, rfl⟩⟩; (try first | exact ⟨rfl, _, World.drewN_drewN _ _ _⟩ | exact ⟨rfl, _, Eq.trans (World.drewN_drewN _ _ _) (congrArg (World.drewN _) (Nat.add_assoc _ _ _))⟩))); try go_wp2_with (first | (go_at_call 42; (with_reducible refine (page_in.calls a0_5 true _ A57.out).mono ?_); rintro e w' ⟨rfl, ⟨nd, rfl⟩⟩; (try first | exact ⟨rfl, _, World.drewN_drewN _ _ _⟩ | exact ⟨rfl, _, Eq.trans (World.drewN_drewN _ _ _) (congrArg (World.drewN _) (Nat.add_assoc _ _ _))⟩))))
            go_ret
            exact ⟨by first | rfl | (simp [errW_none, errW_some] <;> rfl) | (simp [*, errW_none, errW_some] <;> rfl), by repeat (first | (with_reducible first | exact HB.out | apply wA | apply wN | apply wD | refine wS ?_ zc.out) | exact HB.out)⟩
          ·replace c58 := Bool.eq_false_iff.mpr c58
           subst c58
           have H1 : (some false) = some r := by rw [if_neg (show ¬ (false = true) by decide)] at H; exact H
           clear H
           have H := H1
           clear H1
           obtain rfl := Option.some.inj H
           obtain ⟨zj7, zj8, zj9, zka, zkb, zkc, zkd, zke⟩ := cells8 (w := wc) za.out
           obtain ⟨zkf, zkg, zkh, zki, zkj, zkk, zkl, zkm⟩ := frozen8 za.out
           go_wp2_with (first | (go_at_call 42; (with_reducible refine (page_in.calls a0_5 false _ A57.out).mono ?_); rintro e w' ⟨rfl, ⟨nd, rfl⟩⟩; (try first | exact ⟨rfl, _, World.drewN_drewN _ _ _⟩ | exact ⟨rfl, _, Eq.trans (World.drewN_drewN _ _ _) (congrArg (World.drewN _) (Nat.add_assoc _ _ _))⟩)))
           repeat (go_quiet (first | (go_at_call 42; (with_reducible refine (page_in.calls a0_5 false _ A57.out).mono ?_); rintro e w' ⟨rfl, ⟨nd, rfl⟩⟩; (try first | exact ⟨rfl, _, World.drewN_drewN _ _ _⟩ | exact ⟨rfl, _, Eq.trans (World.drewN_drewN _ _ _) (congrArg (World.drewN _) (Nat.add_assoc _ _ _))⟩))); try go_wp2_with (first | (go_at_call 42; (with_reducible refine (page_in.calls a0_5 false _ A57.out).mono ?_); rintro e w' ⟨rfl, ⟨nd, rfl⟩⟩; (try first | exact ⟨rfl, _, World.drewN_drewN _ _ _⟩ | exact ⟨rfl, _, Eq.trans (World.drewN_drewN _ _ _) (congrArg (World.drewN _) (Nat.add_assoc _ _ _))⟩))))
           go_ret
           exact ⟨by first | rfl | (simp [errW_none, errW_some] <;> rfl) | (simp [*, errW_none, errW_some] <;> rfl), by repeat (first | (with_reducible first | exact HB.out | apply wA | apply wN | apply wD | refine wS ?_ zc.out) | exact HB.out)⟩
         ·rw [if_neg c56] at H
          have c56b0 : (a0_4 == 0) = false := beq_eq_false_iff_ne.mpr c56
          have c56b1 : (a0_4 != 0) = true := bne_iff_ne.mpr c56
          obtain rfl := Option.some.inj H
          obtain ⟨zkn, zko, zkp, zkq, zkr, zks, zkt, zku⟩ := cells8 (w := wc) za.out
          obtain ⟨zkv, zkw, zkx, zky, zkz, zk0, zk1, zk2⟩ := frozen8 za.out
          go_wp2
          repeat (go_quiet (fail); try go_wp2)
          go_ret
          exact ⟨by first | rfl | (simp [errW_none, errW_some] <;> rfl) | (simp [*, errW_none, errW_some] <;> rfl), by repeat (first | (with_reducible first | exact HB.out | apply wA | apply wN | apply wD | refine wS ?_ zc.out) | exact HB.out)⟩
        ·rw [if_neg c55] at H
         have c55b0 : ((wrap64 ((wrap64 ((l0_1.length : Int) + (l0_2.length : Int))) + (l0_3.length : Int))) == 0) = false := beq_eq_false_iff_ne.mpr c55
         have c55b1 : ((wrap64 ((wrap64 ((l0_1.length : Int) + (l0_2.length : Int))) + (l0_3.length : Int))) != 0) = true := bne_iff_ne.mpr c55
         obtain rfl := Option.some.inj H
         obtain ⟨zk3, zk4, zk5, zk6, zk7, zk8, zk9, zla⟩ := cells8 (w := wc) za.out
         obtain ⟨zlb, zlc, zld, zle, zlf, zlg, zlh, zli⟩ := frozen8 za.out
         go_wp2
         repeat (go_quiet (fail); try go_wp2)
         go_ret
         exact ⟨by first | rfl | (simp [errW_none, errW_some] <;> rfl) | (simp [*, errW_none, errW_some] <;> rfl), by repeat (first | (with_reducible first | exact HB.out | apply wA | apply wN | apply wD | refine wS ?_ zc.out) | exact HB.out)⟩
       ·rw [if_neg c54] at H
        have c54b0 : (a0_0 == 4) = false := beq_eq_false_iff_ne.mpr c54
        have c54b1 : (a0_0 != 4) = true := bne_iff_ne.mpr c54
        obtain rfl := Option.some.inj H
        obtain ⟨zlj, zlk, zll, zlm, zln, zlo, zlp, zlq⟩ := cells8 (w := wc) za.out
        obtain ⟨zlr, zls, zlt, zlu, zlv, zlw, zlx, zly⟩ := frozen8 za.out
        go_wp2
        repeat (go_quiet (fail); try go_wp2)
        go_ret
        exact ⟨by first | rfl | (simp [errW_none, errW_some] <;> rfl) | (simp [*, errW_none, errW_some] <;> rfl), by repeat (first | (with_reducible first | exact HB.out | apply wA | apply wN | apply wD | refine wS ?_ zc.out) | exact HB.out)⟩
 ·replace c3 := Bool.eq_false_iff.mpr c3
  subst c3
  have H1 : (some false) = some r := by rw [if_neg (show ¬ (false = true) by decide)] at H; exact H
  clear H
  have H := H1
  clear H1
  obtain rfl := Option.some.inj H
  go_enter Try.func17, Try.ntmps17
  go_wp2_with (first | ((with_reducible refine gate_dst (N := 1) rfl ?_); refine box_event ?hg (N := 1) ?hd (cs := #[.int .i64 a0_0, .slice A0_1 l0_1.length c0_1, .slice A0_2 l0_2.length c0_2, .slice A0_3 l0_3.length c0_3, .int .i64 a0_4, .int .i64 a0_5, .int .i64 a0_6, .int .i64 a0_7]) (t := 27) ?hr ?_; (case hd => rfl); (case hg => rfl); (case hr => first | (go_simp; done) | (go_simp; rfl)); intro zb hg w66 hbox hb; have n0_ := Aside0.mk (below_step (by repeat (first | (with_reducible first | exact HB.out | apply wA | apply wN | apply wD) | exact HB.out)) hb); have n1_ := Aside0.mk (hbox); have n2_ := Aside0.mk ((by rw [hg]; exact (below_size (by repeat (first | (with_reducible first | exact HB.out | apply wA | apply wN | apply wD) | exact HB.out))) : w.heap.size ≤ zb)); have n3_ := Aside0.mk ((by rw [hg]; exact (below_size (by repeat (first | (with_reducible first | exact HB.out | apply wA | apply wN | apply wD) | exact HB.out))) : w.heap.size ≤ zb)); clear HB; have HB := n0_; have za := n1_; have zh := n2_; have zc := n3_; clear n0_ n1_ n2_ n3_; clear hb hbox hg; have yc : w66.cell? ⟨zb, 0, none⟩ = some (.int .i64 a0_0) := (blk_cell za.out 0).trans rfl; have yd : w66.cell? ⟨zb, 1, none⟩ = some (.slice A0_1 l0_1.length c0_1) := (blk_cell za.out 1).trans rfl; have ye : w66.cell? ⟨zb, 2, none⟩ = some (.slice A0_2 l0_2.length c0_2) := (blk_cell za.out 2).trans rfl; have yf : w66.cell? ⟨zb, 3, none⟩ = some (.slice A0_3 l0_3.length c0_3) := (blk_cell za.out 3).trans rfl; have yg : w66.cell? ⟨zb, 4, none⟩ = some (.int .i64 a0_4) := (blk_cell za.out 4).trans rfl; have yh : w66.cell? ⟨zb, 5, none⟩ = some (.int .i64 a0_5) := (blk_cell za.out 5).trans rfl; have yi : w66.cell? ⟨zb, 6, none⟩ = some (.int .i64 a0_6) := (blk_cell za.out 6).trans rfl; have yj : w66.cell? ⟨zb, 7, none⟩ = some (.int .i64 a0_7) := (blk_cell za.out 7).trans rfl; have yk := blk_frozen za.out 0; have yl := blk_frozen za.out 1; have ym := blk_frozen za.out 2; have yn := blk_frozen za.out 3; have yo := blk_frozen za.out 4; have yp := blk_frozen za.out 5; have yq := blk_frozen za.out 6; have yr := blk_frozen za.out 7) | (go_at_call 37; (with_reducible refine (page_rising.calls k _ _ l0_1 false _ ?side1 ?side2 A2.out).mono ?_); (case side1 => repeat (first | exact (Kd.C_below zf.out HB.out) | (with_reducible refine Kd.C_alloc ?_ _) | (with_reducible refine Kd.C_drewN ?_ _) | (with_reducible refine Kd.C_drew ?_))); (case side2 => exact zg.out); rintro e w' ⟨rfl, ⟨nd, rfl⟩⟩; (try first | exact ⟨rfl, _, World.drewN_drewN _ _ _⟩ | exact ⟨rfl, _, Eq.trans (World.drewN_drewN _ _ _) (congrArg (World.drewN _) (Nat.add_assoc _ _ _))⟩)))
  repeat (go_quiet (first | ((with_reducible refine gate_dst (N := 1) rfl ?_); refine box_event ?hg (N := 1) ?hd (cs := #[.int .i64 a0_0, .slice A0_1 l0_1.length c0_1, .slice A0_2 l0_2.length c0_2, .slice A0_3 l0_3.length c0_3, .int .i64 a0_4, .int .i64 a0_5, .int .i64 a0_6, .int .i64 a0_7]) (t := 27) ?hr ?_; (case hd => rfl); (case hg => rfl); (case hr => first | (go_simp; done) | (go_simp; rfl)); intro zb hg w66 hbox hb; have n0_ := Aside0.mk (below_step (by repeat (first | (with_reducible first | exact HB.out | apply wA | apply wN | apply wD) | exact HB.out)) hb); have n1_ := Aside0.mk (hbox); have n2_ := Aside0.mk ((by rw [hg]; exact (below_size (by repeat (first | (with_reducible first | exact HB.out | apply wA | apply wN | apply wD) | exact HB.out))) : w.heap.size ≤ zb)); have n3_ := Aside0.mk ((by rw [hg]; exact (below_size (by repeat (first | (with_reducible first | exact HB.out | apply wA | apply wN | apply wD) | exact HB.out))) : w.heap.size ≤ zb)); clear HB; have HB := n0_; have za := n1_; have zh := n2_; have zc := n3_; clear n0_ n1_ n2_ n3_; clear hb hbox hg; have yc : w66.cell? ⟨zb, 0, none⟩ = some (.int .i64 a0_0) := (blk_cell za.out 0).trans rfl; have yd : w66.cell? ⟨zb, 1, none⟩ = some (.slice A0_1 l0_1.length c0_1) := (blk_cell za.out 1).trans rfl; have ye : w66.cell? ⟨zb, 2, none⟩ = some (.slice A0_2 l0_2.length c0_2) := (blk_cell za.out 2).trans rfl; have yf : w66.cell? ⟨zb, 3, none⟩ = some (.slice A0_3 l0_3.length c0_3) := (blk_cell za.out 3).trans rfl; have yg : w66.cell? ⟨zb, 4, none⟩ = some (.int .i64 a0_4) := (blk_cell za.out 4).trans rfl; have yh : w66.cell? ⟨zb, 5, none⟩ = some (.int .i64 a0_5) := (blk_cell za.out 5).trans rfl; have yi : w66.cell? ⟨zb, 6, none⟩ = some (.int .i64 a0_6) := (blk_cell za.out 6).trans rfl; have yj : w66.cell? ⟨zb, 7, none⟩ = some (.int .i64 a0_7) := (blk_cell za.out 7).trans rfl; have yk := blk_frozen za.out 0; have yl := blk_frozen za.out 1; have ym := blk_frozen za.out 2; have yn := blk_frozen za.out 3; have yo := blk_frozen za.out 4; have yp := blk_frozen za.out 5; have yq := blk_frozen za.out 6; have yr := blk_frozen za.out 7) | (go_at_call 37; (with_reducible refine (page_rising.calls k _ _ l0_1 false _ ?side1 ?side2 A2.out).mono ?_); (case side1 => repeat (first | exact (Kd.C_below zf.out HB.out) | (with_reducible refine Kd.C_alloc ?_ _) | (with_reducible refine Kd.C_drewN ?_ _) | (with_reducible refine Kd.C_drew ?_))); (case side2 => exact zg.out); rintro e w' ⟨rfl, ⟨nd, rfl⟩⟩; (try first | exact ⟨rfl, _, World.drewN_drewN _ _ _⟩ | exact ⟨rfl, _, Eq.trans (World.drewN_drewN _ _ _) (congrArg (World.drewN _) (Nat.add_assoc _ _ _))⟩))); try go_wp2_with (first | ((with_reducible refine gate_dst (N := 1) rfl ?_); refine box_event ?hg (N := 1) ?hd (cs := #[.int .i64 a0_0, .slice A0_1 l0_1.length c0_1, .slice A0_2 l0_2.length c0_2, .slice A0_3 l0_3.length c0_3, .int .i64 a0_4, .int .i64 a0_5, .int .i64 a0_6, .int .i64 a0_7]) (t := 27) ?hr ?_; (case hd => rfl); (case hg => rfl); (case hr => first | (go_simp; done) | (go_simp; rfl)); intro zb hg w66 hbox hb; have n0_ := Aside0.mk (below_step (by repeat (first | (with_reducible first | exact HB.out | apply wA | apply wN | apply wD) | exact HB.out)) hb); have n1_ := Aside0.mk (hbox); have n2_ := Aside0.mk ((by rw [hg]; exact (below_size (by repeat (first | (with_reducible first | exact HB.out | apply wA | apply wN | apply wD) | exact HB.out))) : w.heap.size ≤ zb)); have n3_ := Aside0.mk ((by rw [hg]; exact (below_size (by repeat (first | (with_reducible first | exact HB.out | apply wA | apply wN | apply wD) | exact HB.out))) : w.heap.size ≤ zb)); clear HB; have HB := n0_; have za := n1_; have zh := n2_; have zc := n3_; clear n0_ n1_ n2_ n3_; clear hb hbox hg; have yc : w66.cell? ⟨zb, 0, none⟩ = some (.int .i64 a0_0) := (blk_cell za.out 0).trans rfl; have yd : w66.cell? ⟨zb, 1, none⟩ = some (.slice A0_1 l0_1.length c0_1) := (blk_cell za.out 1).trans rfl; have ye : w66.cell? ⟨zb, 2, none⟩ = some (.slice A0_2 l0_2.length c0_2) := (blk_cell za.out 2).trans rfl; have yf : w66.cell? ⟨zb, 3, none⟩ = some (.slice A0_3 l0_3.length c0_3) := (blk_cell za.out 3).trans rfl; have yg : w66.cell? ⟨zb, 4, none⟩ = some (.int .i64 a0_4) := (blk_cell za.out 4).trans rfl; have yh : w66.cell? ⟨zb, 5, none⟩ = some (.int .i64 a0_5) := (blk_cell za.out 5).trans rfl; have yi : w66.cell? ⟨zb, 6, none⟩ = some (.int .i64 a0_6) := (blk_cell za.out 6).trans rfl; have yj : w66.cell? ⟨zb, 7, none⟩ = some (.int .i64 a0_7) := (blk_cell za.out 7).trans rfl; have yk := blk_frozen za.out 0; have yl := blk_frozen za.out 1; have ym := blk_frozen za.out 2; have yn := blk_frozen za.out 3; have yo := blk_frozen za.out 4; have yp := blk_frozen za.out 5; have yq := blk_frozen za.out 6; have yr := blk_frozen za.out 7) | (go_at_call 37; (with_reducible refine (page_rising.calls k _ _ l0_1 false _ ?side1 ?side2 A2.out).mono ?_); (case side1 => repeat (first | exact (Kd.C_below zf.out HB.out) | (with_reducible refine Kd.C_alloc ?_ _) | (with_reducible refine Kd.C_drewN ?_ _) | (with_reducible refine Kd.C_drew ?_))); (case side2 => exact zg.out); rintro e w' ⟨rfl, ⟨nd, rfl⟩⟩; (try first | exact ⟨rfl, _, World.drewN_drewN _ _ _⟩ | exact ⟨rfl, _, Eq.trans (World.drewN_drewN _ _ _) (congrArg (World.drewN _) (Nat.add_assoc _ _ _))⟩))))
  go_ret
  exact ⟨by first | rfl | (simp [errW_none, errW_some] <;> rfl) | (simp [*, errW_none, errW_some] <;> rfl), by repeat (first | (with_reducible first | exact HB.out | apply wA | apply wN | apply wD | refine wS ?_ zc.out) | exact HB.out)⟩

end Go.Proofs.Ytopfaeefhicljaa.Q
