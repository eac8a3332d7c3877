-- printed by a turned print (wip/mkprint.py of this repo) out of the translation; Lean checks it
import Derived.Test.YtopfaeefhicljaaSqz
import Derived.Test.YtopfaeefhicljaaR0
import Derived.Test.YtopfaeefhicljaaR2
import Derived.Test.YtopfaeefhicljaaR3
namespace Go.Proofs.Ytopfaeefhicljaa.Q
open Go.RowKit Go.Proofs.YtopfaeefhicljaaW.PrintWords Go.Proofs.YtopfaeefhicljaaW.PrintLast Go.Proofs.YtopfaeefhicljaaW.PrintMore
attribute [local go_sem] max2_int min2_int max_two min_two max_three min_three max_four min_four   -- for this text's walks alone
set_option linter.unusedVariables false
set_option linter.unusedSimpArgs false

/-! ### page_Page_Right: function 17 -/
def page_Page_Right.j0 : Nat → Int → Int → Int → Bool → Int → List ByteArray → List ByteArray → List Int → Int → Int → Int → Int → Option (Bool)
 | 0, _, _, _, _, _, _, _, _, _, _, _, _ => none
 | k + 1, x3, x4, x5, x6, zu, zbz, jq, jr, ys, yt, zv, zz => if zu = 1 then (if x3 ≤ 6 then (if x4 = x3 then (if x5 = 0 then (if x6 = true then ((slices_ContainsFunc_string_string.f jq 39).bind fun zr => (some (!zr))) else (some false)) else (some false)) else (some false)) else (some false)) else (if zu = 2 then (if x5 ≥ 2 then (if x5 ≤ 8 then (if x3 = (wrap64 (x5 - 1)) then (if x4 = 0 then (if x6 = true then ((slices_ContainsFunc_int_int.f jr 41).bind fun zs => (some (!zs))) else (some false)) else (some false)) else (some false)) else (some false)) else (some false)) else (if zu = 3 then (if (wrap64 ((wrap64 (x3 + x4)) + x5)) = 0 then ((page_in.f ys).bind fun jk => (if jk = true then ((page_in.f yt).bind fun zt => (if zt = true then (if zv ≥ 0 then (if zv ≤ 65536 then (if zz ≥ 0 then (some (decide (zz ≤ zv))) else (some false)) else (some false)) else (some false)) else (some false))) else (some false))) else (some false)) else (if zu = 4 then (if (wrap64 ((wrap64 (x3 + x4)) + x5)) = 0 then (if ys = 0 then ((page_in.f yt).bind fun jl => (if jl = true then (if zv = 0 then (some (zz == 0)) else (some false)) else (some false))) else (some false)) else (some false)) else (some false))))
def page_Page_Right.f (k : Nat) (zi : Int) (zb : List ByteArray) (ze : List ByteArray) (zc : List Int) (zh : Int) (zf : Int) (zg : Int) (zj : Int) : Option (Bool) := (page_rising.f k zb).bind fun ya => (if ya = true then (if zh = 0 then (if zf = 0 then (if zg = 0 then (page_Page_Right.j0 k (zb.length : Int) (ze.length : Int) (zc.length : Int) (zj == 0) zi zb ze zc zh zf zg zj) else (page_Page_Right.j0 k (zb.length : Int) (ze.length : Int) (zc.length : Int) false zi zb ze zc zh zf zg zj)) else (page_Page_Right.j0 k (zb.length : Int) (ze.length : Int) (zc.length : Int) false zi zb ze zc zh zf zg zj)) else (page_Page_Right.j0 k (zb.length : Int) (ze.length : Int) (zc.length : Int) false zi zb ze zc zh zf zg zj)) else (some false))
theorem page_Page_Right.mono_l : ∀ k, (∀ y0 y1 y2 y3 y4 y5 y6 y7 y8 y9 y10 y11, LeO (page_Page_Right.j0 k y0 y1 y2 y3 y4 y5 y6 y7 y8 y9 y10 y11) (page_Page_Right.j0 (k + 1) y0 y1 y2 y3 y4 y5 y6 y7 y8 y9 y10 y11))
 | 0 => fun _ _ _ _ _ _ _ _ _ _ _ _ r h => by simp [page_Page_Right.j0] at h
 | k + 1 => by
  have ih0 := page_Page_Right.mono_l k
  ·intro y0 y1 y2 y3 y4 y5 y6 y7 y8 y9 y10 y11
   unfold page_Page_Right.j0
   repeat' first
   | (with_reducible exact ih0 _ _ _ _ _ _ _ _ _ _ _ _)
   | (with_reducible exact page_rising.mono _ _)
   | (with_reducible exact LeO.refl _)
   | (with_reducible exact LeO.none _)
   | (with_reducible refine LeO.ite ?_ ?_)
   | (with_reducible refine LeO.bind ?_ (fun _ => ?_))
   | exact ih0 _ _ _ _ _ _ _ _ _ _ _ _
   | exact page_rising.mono _ _
   | exact LeO.none _
   | refine LeO.ite ?_ ?_
   | refine LeO.bind ?_ (fun _ => ?_)
theorem page_Page_Right.mono : ∀ a0 a1 a2 a3 a4 a5 a6 a7 k, LeO (page_Page_Right.f k a0 a1 a2 a3 a4 a5 a6 a7) (page_Page_Right.f (k + 1) a0 a1 a2 a3 a4 a5 a6 a7) := by
 intro a0 a1 a2 a3 a4 a5 a6 a7 k
 have ih0 := page_Page_Right.mono_l k
 unfold page_Page_Right.f
 repeat' first
   | (with_reducible exact ih0 _ _ _ _ _ _ _ _ _ _ _ _)
   | (with_reducible exact page_rising.mono _ _)
   | (with_reducible exact LeO.refl _)
   | (with_reducible exact LeO.none _)
   | (with_reducible refine LeO.ite ?_ ?_)
   | (with_reducible refine LeO.bind ?_ (fun _ => ?_))
   | exact ih0 _ _ _ _ _ _ _ _ _ _ _ _
   | exact page_rising.mono _ _
   | exact LeO.none _
   | refine LeO.ite ?_ ?_
   | refine LeO.bind ?_ (fun _ => ?_)
set_option maxHeartbeats 8000000 in
set_option maxRecDepth 100000 in
theorem page_Page_Right.calls (k : Nat) (zi : Int) (zl : Option Addr) (zm : Nat) (zb : List ByteArray) (zn : Option Addr) (zo : Nat) (ze : List ByteArray) (zp : Option Addr) (zq : Nat) (zc : List Int) (zh : Int) (zf : Int) (zg : Int) (zj : Int) (r : Bool) (w : World) (hr0_1 : Kd.C Kd.string w zl zb.length zb) (hc0_1 : zb.length ≤ zm) (hr0_2 : Kd.C Kd.string w zn ze.length ze) (hc0_2 : ze.length ≤ zo) (hr0_3 : Kd.C (Kd.int .i64) w zp zc.length zc) (hc0_3 : zc.length ≤ zq) (h : page_Page_Right.f k zi zb ze zc zh zf zg zj = some r) :
  Calls Try.prog 17 #[.agg #[.int .i64 zi, .slice zl zb.length zm, .slice zn ze.length zo, .slice zp zc.length zq, .int .i64 zh, .int .i64 zf, .int .i64 zg, .int .i64 zj]] w fun e w' => e = .returned (.bool r) ∧ Below w.heap.size w w' := by
 have hu27 := Try.underlying27
 have zw := Aside0.mk hr0_1
 have zx := Aside0.mk hc0_1
 clear hr0_1 hc0_1
 have jm := Aside0.mk hr0_2
 have jn := Aside0.mk hc0_2
 clear hr0_2 hc0_2
 have jo := Aside0.mk hr0_3
 have jp := Aside0.mk hc0_3
 clear hr0_3 hc0_3
 have HB := Aside0.mk (Below.refl w.heap.size w)
 have H : ((page_rising.f k zb).bind fun ya => (if ya = true then (if zh = 0 then (if zf = 0 then (if zg = 0 then (page_Page_Right.j0 k (zb.length : Int) (ze.length : Int) (zc.length : Int) (zj == 0) zi zb ze zc zh zf zg zj) else (page_Page_Right.j0 k (zb.length : Int) (ze.length : Int) (zc.length : Int) false zi zb ze zc zh zf zg zj)) else (page_Page_Right.j0 k (zb.length : Int) (ze.length : Int) (zc.length : Int) false zi zb ze zc zh zf zg zj)) else (page_Page_Right.j0 k (zb.length : Int) (ze.length : Int) (zc.length : Int) false zi zb ze zc zh zf zg zj)) else (some false))) = some r := h
 clear h
 replace H := Option.bind_eq_some_iff.mp H
 obtain ⟨ya, A20, H⟩ := H
 replace H : (if ya = true then (if zh = 0 then (if zf = 0 then (if zg = 0 then (page_Page_Right.j0 k (zb.length : Int) (ze.length : Int) (zc.length : Int) (zj == 0) zi zb ze zc zh zf zg zj) else (page_Page_Right.j0 k (zb.length : Int) (ze.length : Int) (zc.length : Int) false zi zb ze zc zh zf zg zj)) else (page_Page_Right.j0 k (zb.length : Int) (ze.length : Int) (zc.length : Int) false zi zb ze zc zh zf zg zj)) else (page_Page_Right.j0 k (zb.length : Int) (ze.length : Int) (zc.length : Int) false zi zb ze zc zh zf zg zj)) else (some false)) = some r := H
 have A2 := Aside0.mk A20
 clear A20
 by_cases c3 : ya = true
 ·subst c3
  have H1 : (if zh = 0 then (if zf = 0 then (if zg = 0 then (page_Page_Right.j0 k (zb.length : Int) (ze.length : Int) (zc.length : Int) (zj == 0) zi zb ze zc zh zf zg zj) else (page_Page_Right.j0 k (zb.length : Int) (ze.length : Int) (zc.length : Int) false zi zb ze zc zh zf zg zj)) else (page_Page_Right.j0 k (zb.length : Int) (ze.length : Int) (zc.length : Int) false zi zb ze zc zh zf zg zj)) else (page_Page_Right.j0 k (zb.length : Int) (ze.length : Int) (zc.length : Int) false zi zb ze zc zh zf zg zj)) = some r := by rw [if_pos rfl] at H; exact H
  clear H
  have H := H1
  clear H1
  have HC4 := Aside0.mk H
  clear H
  go_enter Try.func17, Try.ntmps17
  go_upto_region 4 with (first | ((with_reducible refine gate_dst (N := 1) rfl ?_); refine box_event ?hg (N := 1) ?hd (cs := #[.int .i64 zi, .slice zl zb.length zm, .slice zn ze.length zo, .slice zp zc.length zq, .int .i64 zh, .int .i64 zf, .int .i64 zg, .int .i64 zj]) (t := 27) ?hr ?_; (case hd => rfl); (case hg => rfl); (case hr => first | (go_simp; done) | (go_simp; rfl)); intro zd hg w5 hbox hb; have n0_ := Aside0.mk (below_step (by repeat (first | (with_reducible first | exact HB.out | apply wA | apply wN | apply wD) | exact HB.out)) hb); have n1_ := Aside0.mk (hbox); have n2_ := Aside0.mk ((by rw [hg]; exact (below_size (by repeat (first | (with_reducible first | exact HB.out | apply wA | apply wN | apply wD) | exact HB.out))) : w.heap.size ≤ zd)); have n3_ := Aside0.mk ((by rw [hg]; exact (below_size (by repeat (first | (with_reducible first | exact HB.out | apply wA | apply wN | apply wD) | exact HB.out))) : w.heap.size ≤ zd)); clear HB; have HB := n0_; have za := n1_; have zy := n2_; have zk := n3_; clear n0_ n1_ n2_ n3_; clear hb hbox hg; have yb : w5.cell? ⟨zd, 0, none⟩ = some (.int .i64 zi) := (blk_cell za.out 0).trans rfl; have yc : w5.cell? ⟨zd, 1, none⟩ = some (.slice zl zb.length zm) := (blk_cell za.out 1).trans rfl; have yd : w5.cell? ⟨zd, 2, none⟩ = some (.slice zn ze.length zo) := (blk_cell za.out 2).trans rfl; have ye : w5.cell? ⟨zd, 3, none⟩ = some (.slice zp zc.length zq) := (blk_cell za.out 3).trans rfl; have yf : w5.cell? ⟨zd, 4, none⟩ = some (.int .i64 zh) := (blk_cell za.out 4).trans rfl; have yg : w5.cell? ⟨zd, 5, none⟩ = some (.int .i64 zf) := (blk_cell za.out 5).trans rfl; have yh : w5.cell? ⟨zd, 6, none⟩ = some (.int .i64 zg) := (blk_cell za.out 6).trans rfl; have yi : w5.cell? ⟨zd, 7, none⟩ = some (.int .i64 zj) := (blk_cell za.out 7).trans rfl; have yj := blk_frozen za.out 0; have yk := blk_frozen za.out 1; have yl := blk_frozen za.out 2; have ym := blk_frozen za.out 3; have yn := blk_frozen za.out 4; have yo := blk_frozen za.out 5; have yp := blk_frozen za.out 6; have yq := blk_frozen za.out 7) | (go_at_call 37; (with_reducible refine (page_rising.calls k _ _ zb true _ ?side1 ?side2 A2.out).mono ?_); (case side1 => repeat (first | exact (Kd.C_below zw.out HB.out) | (with_reducible refine Kd.C_alloc ?_ _) | (with_reducible refine Kd.C_drewN ?_ _) | (with_reducible refine Kd.C_drew ?_))); (case side2 => exact zx.out); rintro e w' ⟨rfl, ⟨nd, rfl⟩⟩; (try first | exact ⟨rfl, _, World.drewN_drewN _ _ _⟩ | exact ⟨rfl, _, Eq.trans (World.drewN_drewN _ _ _) (congrArg (World.drewN _) (Nat.add_assoc _ _ _))⟩)))
  repeat (go_quiet (first | ((with_reducible refine gate_dst (N := 1) rfl ?_); refine box_event ?hg (N := 1) ?hd (cs := #[.int .i64 zi, .slice zl zb.length zm, .slice zn ze.length zo, .slice zp zc.length zq, .int .i64 zh, .int .i64 zf, .int .i64 zg, .int .i64 zj]) (t := 27) ?hr ?_; (case hd => rfl); (case hg => rfl); (case hr => first | (go_simp; done) | (go_simp; rfl)); intro zd hg w5 hbox hb; have n0_ := Aside0.mk (below_step (by repeat (first | (with_reducible first | exact HB.out | apply wA | apply wN | apply wD) | exact HB.out)) hb); have n1_ := Aside0.mk (hbox); have n2_ := Aside0.mk ((by rw [hg]; exact (below_size (by repeat (first | (with_reducible first | exact HB.out | apply wA | apply wN | apply wD) | exact HB.out))) : w.heap.size ≤ zd)); have n3_ := Aside0.mk ((by rw [hg]; exact (below_size (by repeat (first | (with_reducible first | exact HB.out | apply wA | apply wN | apply wD) | exact HB.out))) : w.heap.size ≤ zd)); clear HB; have HB := n0_; have za := n1_; have zy := n2_; have zk := n3_; clear n0_ n1_ n2_ n3_; clear hb hbox hg; have yb : w5.cell? ⟨zd, 0, none⟩ = some (.int .i64 zi) := (blk_cell za.out 0).trans rfl; have yc : w5.cell? ⟨zd, 1, none⟩ = some (.slice zl zb.length zm) := (blk_cell za.out 1).trans rfl; have yd : w5.cell? ⟨zd, 2, none⟩ = some (.slice zn ze.length zo) := (blk_cell za.out 2).trans rfl; have ye : w5.cell? ⟨zd, 3, none⟩ = some (.slice zp zc.length zq) := (blk_cell za.out 3).trans rfl; have yf : w5.cell? ⟨zd, 4, none⟩ = some (.int .i64 zh) := (blk_cell za.out 4).trans rfl; have yg : w5.cell? ⟨zd, 5, none⟩ = some (.int .i64 zf) := (blk_cell za.out 5).trans rfl; have yh : w5.cell? ⟨zd, 6, none⟩ = some (.int .i64 zg) := (blk_cell za.out 6).trans rfl; have yi : w5.cell? ⟨zd, 7, none⟩ = some (.int .i64 zj) := (blk_cell za.out 7).trans rfl; have yj := blk_frozen za.out 0; have yk := blk_frozen za.out 1; have yl := blk_frozen za.out 2; have ym := blk_frozen za.out 3; have yn := blk_frozen za.out 4; have yo := blk_frozen za.out 5; have yp := blk_frozen za.out 6; have yq := blk_frozen za.out 7) | (go_at_call 37; (with_reducible refine (page_rising.calls k _ _ zb true _ ?side1 ?side2 A2.out).mono ?_); (case side1 => repeat (first | exact (Kd.C_below zw.out HB.out) | (with_reducible refine Kd.C_alloc ?_ _) | (with_reducible refine Kd.C_drewN ?_ _) | (with_reducible refine Kd.C_drew ?_))); (case side2 => exact zx.out); rintro e w' ⟨rfl, ⟨nd, rfl⟩⟩; (try first | exact ⟨rfl, _, World.drewN_drewN _ _ _⟩ | exact ⟨rfl, _, Eq.trans (World.drewN_drewN _ _ _) (congrArg (World.drewN _) (Nat.add_assoc _ _ _))⟩))); go_upto_region 4 with (first | ((with_reducible refine gate_dst (N := 1) rfl ?_); refine box_event ?hg (N := 1) ?hd (cs := #[.int .i64 zi, .slice zl zb.length zm, .slice zn ze.length zo, .slice zp zc.length zq, .int .i64 zh, .int .i64 zf, .int .i64 zg, .int .i64 zj]) (t := 27) ?hr ?_; (case hd => rfl); (case hg => rfl); (case hr => first | (go_simp; done) | (go_simp; rfl)); intro zd hg w5 hbox hb; have n0_ := Aside0.mk (below_step (by repeat (first | (with_reducible first | exact HB.out | apply wA | apply wN | apply wD) | exact HB.out)) hb); have n1_ := Aside0.mk (hbox); have n2_ := Aside0.mk ((by rw [hg]; exact (below_size (by repeat (first | (with_reducible first | exact HB.out | apply wA | apply wN | apply wD) | exact HB.out))) : w.heap.size ≤ zd)); have n3_ := Aside0.mk ((by rw [hg]; exact (below_size (by repeat (first | (with_reducible first | exact HB.out | apply wA | apply wN | apply wD) | exact HB.out))) : w.heap.size ≤ zd)); clear HB; have HB := n0_; have za := n1_; have zy := n2_; have zk := n3_; clear n0_ n1_ n2_ n3_; clear hb hbox hg; have yb : w5.cell? ⟨zd, 0, none⟩ = some (.int .i64 zi) := (blk_cell za.out 0).trans rfl; have yc : w5.cell? ⟨zd, 1, none⟩ = some (.slice zl zb.length zm) := (blk_cell za.out 1).trans rfl; have yd : w5.cell? ⟨zd, 2, none⟩ = some (.slice zn ze.length zo) := (blk_cell za.out 2).trans rfl; have ye : w5.cell? ⟨zd, 3, none⟩ = some (.slice zp zc.length zq) := (blk_cell za.out 3).trans rfl; have yf : w5.cell? ⟨zd, 4, none⟩ = some (.int .i64 zh) := (blk_cell za.out 4).trans rfl; have yg : w5.cell? ⟨zd, 5, none⟩ = some (.int .i64 zf) := (blk_cell za.out 5).trans rfl; have yh : w5.cell? ⟨zd, 6, none⟩ = some (.int .i64 zg) := (blk_cell za.out 6).trans rfl; have yi : w5.cell? ⟨zd, 7, none⟩ = some (.int .i64 zj) := (blk_cell za.out 7).trans rfl; have yj := blk_frozen za.out 0; have yk := blk_frozen za.out 1; have yl := blk_frozen za.out 2; have ym := blk_frozen za.out 3; have yn := blk_frozen za.out 4; have yo := blk_frozen za.out 5; have yp := blk_frozen za.out 6; have yq := blk_frozen za.out 7) | (go_at_call 37; (with_reducible refine (page_rising.calls k _ _ zb true _ ?side1 ?side2 A2.out).mono ?_); (case side1 => repeat (first | exact (Kd.C_below zw.out HB.out) | (with_reducible refine Kd.C_alloc ?_ _) | (with_reducible refine Kd.C_drewN ?_ _) | (with_reducible refine Kd.C_drew ?_))); (case side2 => exact zx.out); rintro e w' ⟨rfl, ⟨nd, rfl⟩⟩; (try first | exact ⟨rfl, _, World.drewN_drewN _ _ _⟩ | exact ⟨rfl, _, Eq.trans (World.drewN_drewN _ _ _) (congrArg (World.drewN _) (Nat.add_assoc _ _ _))⟩))))
  (try simp only [Act.put, List.setIfInBounds_toArray, List.set_cons_zero, List.set_cons_succ])
  go_cut [6] (fun v6 wc => ∃ (kq : Nat) (yr : Bool), v6 = .bool yr ∧ Aside0 (page_Page_Right.j0 kq (zb.length : Int) (ze.length : Int) (zc.length : Int) yr zi zb ze zc zh zf zg zj = some r) ∧ Aside0 (kq ≤ k) ∧ Aside0 (wc.heap[zd]? = some (.cells #[.int .i64 zi, (.slice zl zb.length zm), (.slice zn ze.length zo), (.slice zp zc.length zq), .int .i64 zh, .int .i64 zf, .int .i64 zg, .int .i64 zj] 27 (0, 0))) ∧ Aside0 (Below w.heap.size w wc))
  case first =>
   have H := HC4.out
   clear HC4
   by_cases c7 : zh = 0
   ·rw [if_pos c7] at H
    have c7b0 : (zh == 0) = true := beq_iff_eq.mpr c7
    have c7b1 : (zh != 0) = false := bne_eq_false_iff_eq.mpr c7
    clear c7
    (first | rw [c7b0] | (simp only [i64_w, i32_w]; rw [c7b0]) | skip)
    by_cases c8 : zf = 0
    ·rw [if_pos c8] at H
     have c8b0 : (zf == 0) = true := beq_iff_eq.mpr c8
     have c8b1 : (zf != 0) = false := bne_eq_false_iff_eq.mpr c8
     clear c8
     by_cases c9 : zg = 0
     ·rw [if_pos c9] at H
      have c9b0 : (zg == 0) = true := beq_iff_eq.mpr c9
      have c9b1 : (zg != 0) = false := bne_eq_false_iff_eq.mpr c9
      clear c9
      have H' := Aside0.mk H
      clear H
      obtain ⟨js, jt, ju, jv, jw, jx, jy, jz⟩ := cells8 (w := w5) za.out
      obtain ⟨zaa, zab, zac, zad, zae, zaf, zag, zah⟩ := frozen8 za.out
      go_wp2
      repeat (go_quiet (fail); try go_wp2)
      go_meet
      case rel => exact ⟨_, ((zj == 0)), (by first | rfl | (simp; done) | (simp [*]; done)), H', ⟨by first | omega | exact Nat.le_refl _⟩, ⟨by (with_reducible repeat (first | refine bN ?_ _ | refine bD ?_ | refine bA ?_ _)); exact za.out⟩, ⟨by repeat (first | (with_reducible first | exact HB.out | apply wA | apply wN | apply wD | refine wS ?_ zk.out) | exact HB.out)⟩⟩
     ·rw [if_neg c9] at H
      have c9b0 : (zg == 0) = false := beq_eq_false_iff_ne.mpr c9
      have c9b1 : (zg != 0) = true := bne_iff_ne.mpr c9
      have H' := Aside0.mk H
      clear H
      obtain ⟨zai, zaj, zak, zal, zam, zan, zao, zap⟩ := cells8 (w := w5) za.out
      obtain ⟨zaq, zar, zas, zat, zau, zav, zaw, zax⟩ := frozen8 za.out
      go_wp2
      repeat (go_quiet (fail); try go_wp2)
      go_meet
      case rel => exact ⟨_, (false), (by first | rfl | (simp; done) | (simp [*]; done)), H', ⟨by first | omega | exact Nat.le_refl _⟩, ⟨by (with_reducible repeat (first | refine bN ?_ _ | refine bD ?_ | refine bA ?_ _)); exact za.out⟩, ⟨by repeat (first | (with_reducible first | exact HB.out | apply wA | apply wN | apply wD | refine wS ?_ zk.out) | exact HB.out)⟩⟩
    ·rw [if_neg c8] at H
     have c8b0 : (zf == 0) = false := beq_eq_false_iff_ne.mpr c8
     have c8b1 : (zf != 0) = true := bne_iff_ne.mpr c8
     have H' := Aside0.mk H
     clear H
     obtain ⟨zay, zaz, za0, za1, za2, za3, za4, za5⟩ := cells8 (w := w5) za.out
     obtain ⟨za6, za7, za8, za9, zba, zbb, zbc, zbd⟩ := frozen8 za.out
     go_wp2
     repeat (go_quiet (fail); try go_wp2)
     go_meet
     case rel => exact ⟨_, (false), (by first | rfl | (simp; done) | (simp [*]; done)), H', ⟨by first | omega | exact Nat.le_refl _⟩, ⟨by (with_reducible repeat (first | refine bN ?_ _ | refine bD ?_ | refine bA ?_ _)); exact za.out⟩, ⟨by repeat (first | (with_reducible first | exact HB.out | apply wA | apply wN | apply wD | refine wS ?_ zk.out) | exact HB.out)⟩⟩
   ·rw [if_neg c7] at H
    have c7b0 : (zh == 0) = false := beq_eq_false_iff_ne.mpr c7
    have c7b1 : (zh != 0) = true := bne_iff_ne.mpr c7
    (first | rw [c7b0] | (simp only [i64_w, i32_w]; rw [c7b0]) | skip)
    have H' := Aside0.mk H
    clear H
    obtain ⟨zbe, zbf, zbg, zbh, zbi, zbj, zbk, zbl⟩ := cells8 (w := w5) za.out
    obtain ⟨zbm, zbn, zbo, zbp, zbq, zbr, zbs, zbt⟩ := frozen8 za.out
    go_wp2
    repeat (go_quiet (fail); try go_wp2)
    go_meet
    case rel => exact ⟨_, (false), (by first | rfl | (simp; done) | (simp [*]; done)), H', ⟨by first | omega | exact Nat.le_refl _⟩, ⟨by (with_reducible repeat (first | refine bN ?_ _ | refine bD ?_ | refine bA ?_ _)); exact za.out⟩, ⟨by repeat (first | (with_reducible first | exact HB.out | apply wA | apply wN | apply wD | refine wS ?_ zk.out) | exact HB.out)⟩⟩
  case rest =>
   clear HC4
   (try clear c1); (try clear p2); (try clear c3); (try clear c7); (try clear c7b0); (try clear c7b1); (try clear c8); (try clear c8b0); (try clear c8b1); (try clear c9); (try clear c9b0); (try clear c9b1); (try clear js jt ju jv jw jx jy jz); (try clear zai zaj zak zal zam zan zao zap); (try clear zay zaz za0 za1 za2 za3 za4 za5); (try clear zbe zbf zbg zbh zbi zbj zbk zbl); (try clear yb yc yd ye yf yg yh yi); (try clear zaa zab zac zad zae zaf zag zah); (try clear zaq zar zas zat zau zav zaw zax); (try clear za6 za7 za8 za9 zba zbb zbc zbd); (try clear zbm zbn zbo zbp zbq zbr zbs zbt); (try clear yj yk yl ym yn yo yp yq)
   obtain ⟨kq, yr, rfl, HA, HJ3, za, HB⟩ := hcut
   cases kq with
   | zero => exact absurd HA.out (by simp [page_Page_Right.j0])
   | succ kj3 =>
    have H := HA.out
    clear HA
    simp only [page_Page_Right.j0] at H
    by_cases c14 : zi = 1
    ·rw [if_pos c14] at H
     have c14b0 : (zi == 1) = true := beq_iff_eq.mpr c14
     have c14b1 : (zi != 1) = false := bne_eq_false_iff_eq.mpr c14
     clear c14
     by_cases c15 : (zb.length : Int) ≤ 6
     ·rw [if_pos c15] at H
      have c15b0 : decide ((zb.length : Int) ≤ 6) = true := decide_eq_true c15
      have c15b1 : decide (zb.length ≤ 6) = true := decide_eq_true (by omega)
      clear c15
      by_cases c16 : (ze.length : Int) = (zb.length : Int)
      ·rw [if_pos c16] at H
       have c16b0 : ((ze.length : Int) == (zb.length : Int)) = true := beq_iff_eq.mpr c16
       have c16b1 : ((ze.length : Int) != (zb.length : Int)) = false := bne_eq_false_iff_eq.mpr c16
       have c16b2 : (ze.length == zb.length) = true := by first | simpa using c16 | (simp at c16 ⊢; omega)
       clear c16
       by_cases c17 : (zc.length : Int) = 0
       ·rw [if_pos c17] at H
        have c17b0 : ((zc.length : Int) == 0) = true := beq_iff_eq.mpr c17
        have c17b1 : ((zc.length : Int) != 0) = false := bne_eq_false_iff_eq.mpr c17
        clear c17
        by_cases c18 : yr = true
        ·subst c18
         have H1 : ((slices_ContainsFunc_string_string.f ze 39).bind fun zr => (some (!zr))) = some r := by rw [if_pos rfl] at H; exact H
         clear H
         have H := H1
         clear H1
         replace H := Option.bind_eq_some_iff.mp H
         obtain ⟨zr, zbu, H⟩ := H
         replace H : (some (!zr)) = some r := H
         have A19 := Aside0.mk zbu
         clear zbu
         obtain rfl := Option.some.inj H
         obtain ⟨zb0, zb1, zb2, zb3, zb4, zb5, zb6, zb7⟩ := cells8 (w := wc) za.out
         obtain ⟨zb8, zb9, zca, zcb, zcc, zcd, zce, zcf⟩ := frozen8 za.out
         go_wp2_with (first | (go_at_call 38; (with_reducible refine (slices_ContainsFunc_string_string.calls _ _ ze 39 zr _ ?side1 ?side2 A19.out).mono ?_); (case side1 => repeat (first | exact (Kd.C_below jm.out HB.out) | (with_reducible refine Kd.C_alloc ?_ _) | (with_reducible refine Kd.C_drewN ?_ _) | (with_reducible refine Kd.C_drew ?_))); (case side2 => exact jn.out); rintro e w' ⟨rfl, ⟨nd, rfl⟩⟩; (try first | exact ⟨rfl, _, World.drewN_drewN _ _ _⟩ | exact ⟨rfl, _, Eq.trans (World.drewN_drewN _ _ _) (congrArg (World.drewN _) (Nat.add_assoc _ _ _))⟩)))
         repeat (go_quiet (first | (go_at_call 38; (with_reducible refine (slices_ContainsFunc_string_string.calls _ _ ze 39 zr _ ?side1 ?side2 A19.out).mono ?_); (case side1 => repeat (first | exact (Kd.C_below jm.out HB.out) | (with_reducible refine Kd.C_alloc ?_ _) | (with_reducible refine Kd.C_drewN ?_ _) | (with_reducible refine Kd.C_drew ?_))); (case side2 => exact jn.out); rintro e w' ⟨rfl, ⟨nd, rfl⟩⟩; (try first | exact ⟨rfl, _, World.drewN_drewN _ _ _⟩ | exact ⟨rfl, _, Eq.trans (World.drewN_drewN _ _ _) (congrArg (World.drewN _) (Nat.add_assoc _ _ _))⟩))); try go_wp2_with (first | (go_at_call 38; (with_reducible refine (slices_ContainsFunc_string_string.calls _ _ ze 39 zr _ ?side1 ?side2 A19.out).mono ?_); (case side1 => repeat (first | exact (Kd.C_below jm.out HB.out) | (with_reducible refine Kd.C_alloc ?_ _) | (with_reducible refine Kd.C_drewN ?_ _) | (with_reducible refine Kd.C_drew ?_))); (case side2 => exact jn.out); rintro e w' ⟨rfl, ⟨nd, rfl⟩⟩; (try first | exact ⟨rfl, _, World.drewN_drewN _ _ _⟩ | exact ⟨rfl, _, Eq.trans (World.drewN_drewN _ _ _) (congrArg (World.drewN _) (Nat.add_assoc _ _ _))⟩))))
         go_ret
         exact ⟨by first | rfl | (simp [errW_none, errW_some] <;> rfl) | (simp [*, errW_none, errW_some] <;> rfl), by repeat (first | (with_reducible first | exact HB.out | apply wA | apply wN | apply wD | refine wS ?_ zk.out) | exact HB.out)⟩
        ·replace c18 := Bool.eq_false_iff.mpr c18
         subst c18
         have H1 : (some false) = some r := by rw [if_neg (show ¬ (false = true) by decide)] at H; exact H
         clear H
         have H := H1
         clear H1
         obtain rfl := Option.some.inj H
         obtain ⟨zcg, zch, zci, zcj, zck, zcl, zcm, zcn⟩ := cells8 (w := wc) za.out
         obtain ⟨zco, zcp, zcq, zcr, zcs, zct, zcu, zcv⟩ := frozen8 za.out
         go_wp2
         repeat (go_quiet (fail); try go_wp2)
         go_ret
         exact ⟨by first | rfl | (simp [errW_none, errW_some] <;> rfl) | (simp [*, errW_none, errW_some] <;> rfl), by repeat (first | (with_reducible first | exact HB.out | apply wA | apply wN | apply wD | refine wS ?_ zk.out) | exact HB.out)⟩
       ·rw [if_neg c17] at H
        have c17b0 : ((zc.length : Int) == 0) = false := beq_eq_false_iff_ne.mpr c17
        have c17b1 : ((zc.length : Int) != 0) = true := bne_iff_ne.mpr c17
        have c17b2 : ¬ (zc = []) := fun h_ => c17 (by rw [h_]; rfl)
        obtain rfl := Option.some.inj H
        obtain ⟨zcw, zcx, zcy, zcz, zc0, zc1, zc2, zc3⟩ := cells8 (w := wc) za.out
        obtain ⟨zc4, zc5, zc6, zc7, zc8, zc9, zda, zdb⟩ := frozen8 za.out
        go_wp2
        repeat (go_quiet (fail); try go_wp2)
        go_ret
        exact ⟨by first | rfl | (simp [errW_none, errW_some] <;> rfl) | (simp [*, errW_none, errW_some] <;> rfl), by repeat (first | (with_reducible first | exact HB.out | apply wA | apply wN | apply wD | refine wS ?_ zk.out) | exact HB.out)⟩
      ·rw [if_neg c16] at H
       have c16b0 : ((ze.length : Int) == (zb.length : Int)) = false := beq_eq_false_iff_ne.mpr c16
       have c16b1 : ((ze.length : Int) != (zb.length : Int)) = true := bne_iff_ne.mpr c16
       have c16b2 : (ze.length == zb.length) = false := by first | simpa using c16 | (simp at c16 ⊢; omega)
       obtain rfl := Option.some.inj H
       obtain ⟨zdc, zdd, zde, zdf, zdg, zdh, zdi, zdj⟩ := cells8 (w := wc) za.out
       obtain ⟨zdk, zdl, zdm, zdn, zdo, zdp, zdq, zdr⟩ := frozen8 za.out
       go_wp2
       repeat (go_quiet (fail); try go_wp2)
       go_ret
       exact ⟨by first | rfl | (simp [errW_none, errW_some] <;> rfl) | (simp [*, errW_none, errW_some] <;> rfl), by repeat (first | (with_reducible first | exact HB.out | apply wA | apply wN | apply wD | refine wS ?_ zk.out) | exact HB.out)⟩
     ·rw [if_neg c15] at H
      have c15b0 : decide ((zb.length : Int) ≤ 6) = false := decide_eq_false c15
      have c15b1 : decide (zb.length ≤ 6) = false := decide_eq_false (by omega)
      clear c15
      obtain rfl := Option.some.inj H
      obtain ⟨zds, zdt, zdu, zdv, zdw, zdx, zdy, zdz⟩ := cells8 (w := wc) za.out
      obtain ⟨zd0, zd1, zd2, zd3, zd4, zd5, zd6, zd7⟩ := frozen8 za.out
      go_wp2
      repeat (go_quiet (fail); try go_wp2)
      go_ret
      exact ⟨by first | rfl | (simp [errW_none, errW_some] <;> rfl) | (simp [*, errW_none, errW_some] <;> rfl), by repeat (first | (with_reducible first | exact HB.out | apply wA | apply wN | apply wD | refine wS ?_ zk.out) | exact HB.out)⟩
    ·rw [if_neg c14] at H
     have c14b0 : (zi == 1) = false := beq_eq_false_iff_ne.mpr c14
     have c14b1 : (zi != 1) = true := bne_iff_ne.mpr c14
     by_cases c25 : zi = 2
     ·rw [if_pos c25] at H
      have c25b0 : (zi == 2) = true := beq_iff_eq.mpr c25
      have c25b1 : (zi != 2) = false := bne_eq_false_iff_eq.mpr c25
      clear c25
      by_cases c26 : (zc.length : Int) ≥ 2
      ·rw [if_pos c26] at H
       have c26b0 : decide (2 ≤ (zc.length : Int)) = true := decide_eq_true c26
       have c26b1 : decide (2 ≤ zc.length) = true := decide_eq_true (by omega)
       clear c26
       by_cases c27 : (zc.length : Int) ≤ 8
       ·rw [if_pos c27] at H
        have c27b0 : decide ((zc.length : Int) ≤ 8) = true := decide_eq_true c27
        have c27b1 : decide (zc.length ≤ 8) = true := decide_eq_true (by omega)
        clear c27
        by_cases c28 : (zb.length : Int) = (wrap64 ((zc.length : Int) - 1))
        ·rw [if_pos c28] at H
         have c28b0 : ((zb.length : Int) == (wrap64 ((zc.length : Int) - 1))) = true := beq_iff_eq.mpr c28
         have c28b1 : ((zb.length : Int) != (wrap64 ((zc.length : Int) - 1))) = false := bne_eq_false_iff_eq.mpr c28
         clear c28
         by_cases c29 : (ze.length : Int) = 0
         ·rw [if_pos c29] at H
          have c29b0 : ((ze.length : Int) == 0) = true := beq_iff_eq.mpr c29
          have c29b1 : ((ze.length : Int) != 0) = false := bne_eq_false_iff_eq.mpr c29
          clear c29
          by_cases c30 : yr = true
          ·subst c30
           have H1 : ((slices_ContainsFunc_int_int.f zc 41).bind fun zs => (some (!zs))) = some r := by rw [if_pos rfl] at H; exact H
           clear H
           have H := H1
           clear H1
           replace H := Option.bind_eq_some_iff.mp H
           obtain ⟨zs, zbv, H⟩ := H
           replace H : (some (!zs)) = some r := H
           have A31 := Aside0.mk zbv
           clear zbv
           obtain rfl := Option.some.inj H
           obtain ⟨zd8, zd9, zea, zeb, zec, zed, zee, zef⟩ := cells8 (w := wc) za.out
           obtain ⟨zeg, zeh, zei, zej, zek, zel, zem, zen⟩ := frozen8 za.out
           go_wp2_with (first | (go_at_call 40; (with_reducible refine (slices_ContainsFunc_int_int.calls _ _ zc 41 zs _ ?side1 ?side2 A31.out).mono ?_); (case side1 => repeat (first | exact (Kd.C_below jo.out HB.out) | (with_reducible refine Kd.C_alloc ?_ _) | (with_reducible refine Kd.C_drewN ?_ _) | (with_reducible refine Kd.C_drew ?_))); (case side2 => exact jp.out); rintro e w' ⟨rfl, ⟨nd, rfl⟩⟩; (try first | exact ⟨rfl, _, World.drewN_drewN _ _ _⟩ | exact ⟨rfl, _, Eq.trans (World.drewN_drewN _ _ _) (congrArg (World.drewN _) (Nat.add_assoc _ _ _))⟩)))
           repeat (go_quiet (first | (go_at_call 40; (with_reducible refine (slices_ContainsFunc_int_int.calls _ _ zc 41 zs _ ?side1 ?side2 A31.out).mono ?_); (case side1 => repeat (first | exact (Kd.C_below jo.out HB.out) | (with_reducible refine Kd.C_alloc ?_ _) | (with_reducible refine Kd.C_drewN ?_ _) | (with_reducible refine Kd.C_drew ?_))); (case side2 => exact jp.out); rintro e w' ⟨rfl, ⟨nd, rfl⟩⟩; (try first | exact ⟨rfl, _, World.drewN_drewN _ _ _⟩ | exact ⟨rfl, _, Eq.trans (World.drewN_drewN _ _ _) (congrArg (World.drewN _) (Nat.add_assoc _ _ _))⟩))); try go_wp2_with (first | (go_at_call 40; (with_reducible refine (slices_ContainsFunc_int_int.calls _ _ zc 41 zs _ ?side1 ?side2 A31.out).mono ?_); (case side1 => repeat (first | exact (Kd.C_below jo.out HB.out) | (with_reducible refine Kd.C_alloc ?_ _) | (with_reducible refine Kd.C_drewN ?_ _) | (with_reducible refine Kd.C_drew ?_))); (case side2 => exact jp.out); rintro e w' ⟨rfl, ⟨nd, rfl⟩⟩; (try first | exact ⟨rfl, _, World.drewN_drewN _ _ _⟩ | exact ⟨rfl, _, Eq.trans (World.drewN_drewN _ _ _) (congrArg (World.drewN _) (Nat.add_assoc _ _ _))⟩))))
           go_ret
           exact ⟨by first | rfl | (simp [errW_none, errW_some] <;> rfl) | (simp [*, errW_none, errW_some] <;> rfl), by repeat (first | (with_reducible first | exact HB.out | apply wA | apply wN | apply wD | refine wS ?_ zk.out) | exact HB.out)⟩
          ·replace c30 := Bool.eq_false_iff.mpr c30
           subst c30
           have H1 : (some false) = some r := by rw [if_neg (show ¬ (false = true) by decide)] at H; exact H
           clear H
           have H := H1
           clear H1
           obtain rfl := Option.some.inj H
           obtain ⟨zeo, zep, zeq, zer, zes, zet, zeu, zev⟩ := cells8 (w := wc) za.out
           obtain ⟨zew, zex, zey, zez, ze0, ze1, ze2, ze3⟩ := frozen8 za.out
           go_wp2
           repeat (go_quiet (fail); try go_wp2)
           go_ret
           exact ⟨by first | rfl | (simp [errW_none, errW_some] <;> rfl) | (simp [*, errW_none, errW_some] <;> rfl), by repeat (first | (with_reducible first | exact HB.out | apply wA | apply wN | apply wD | refine wS ?_ zk.out) | exact HB.out)⟩
         ·rw [if_neg c29] at H
          have c29b0 : ((ze.length : Int) == 0) = false := beq_eq_false_iff_ne.mpr c29
          have c29b1 : ((ze.length : Int) != 0) = true := bne_iff_ne.mpr c29
          have c29b2 : ¬ (ze = []) := fun h_ => c29 (by rw [h_]; rfl)
          obtain rfl := Option.some.inj H
          obtain ⟨ze4, ze5, ze6, ze7, ze8, ze9, zfa, zfb⟩ := cells8 (w := wc) za.out
          obtain ⟨zfc, zfd, zfe, zff, zfg, zfh, zfi, zfj⟩ := frozen8 za.out
          go_wp2
          repeat (go_quiet (fail); try go_wp2)
          go_ret
          exact ⟨by first | rfl | (simp [errW_none, errW_some] <;> rfl) | (simp [*, errW_none, errW_some] <;> rfl), by repeat (first | (with_reducible first | exact HB.out | apply wA | apply wN | apply wD | refine wS ?_ zk.out) | exact HB.out)⟩
        ·rw [if_neg c28] at H
         have c28b0 : ((zb.length : Int) == (wrap64 ((zc.length : Int) - 1))) = false := beq_eq_false_iff_ne.mpr c28
         have c28b1 : ((zb.length : Int) != (wrap64 ((zc.length : Int) - 1))) = true := bne_iff_ne.mpr c28
         obtain rfl := Option.some.inj H
         obtain ⟨zfk, zfl, zfm, zfn, zfo, zfp, zfq, zfr⟩ := cells8 (w := wc) za.out
         obtain ⟨zfs, zft, zfu, zfv, zfw, zfx, zfy, zfz⟩ := frozen8 za.out
         go_wp2
         repeat (go_quiet (fail); try go_wp2)
         go_ret
         exact ⟨by first | rfl | (simp [errW_none, errW_some] <;> rfl) | (simp [*, errW_none, errW_some] <;> rfl), by repeat (first | (with_reducible first | exact HB.out | apply wA | apply wN | apply wD | refine wS ?_ zk.out) | exact HB.out)⟩
       ·rw [if_neg c27] at H
        have c27b0 : decide ((zc.length : Int) ≤ 8) = false := decide_eq_false c27
        have c27b1 : decide (zc.length ≤ 8) = false := decide_eq_false (by omega)
        clear c27
        obtain rfl := Option.some.inj H
        obtain ⟨zf0, zf1, zf2, zf3, zf4, zf5, zf6, zf7⟩ := cells8 (w := wc) za.out
        obtain ⟨zf8, zf9, zga, zgb, zgc, zgd, zge, zgf⟩ := frozen8 za.out
        go_wp2
        repeat (go_quiet (fail); try go_wp2)
        go_ret
        exact ⟨by first | rfl | (simp [errW_none, errW_some] <;> rfl) | (simp [*, errW_none, errW_some] <;> rfl), by repeat (first | (with_reducible first | exact HB.out | apply wA | apply wN | apply wD | refine wS ?_ zk.out) | exact HB.out)⟩
      ·rw [if_neg c26] at H
       have c26b0 : decide (2 ≤ (zc.length : Int)) = false := decide_eq_false c26
       have c26b1 : decide (2 ≤ zc.length) = false := decide_eq_false (by omega)
       clear c26
       obtain rfl := Option.some.inj H
       obtain ⟨zgg, zgh, zgi, zgj, zgk, zgl, zgm, zgn⟩ := cells8 (w := wc) za.out
       obtain ⟨zgo, zgp, zgq, zgr, zgs, zgt, zgu, zgv⟩ := frozen8 za.out
       go_wp2
       repeat (go_quiet (fail); try go_wp2)
       go_ret
       exact ⟨by first | rfl | (simp [errW_none, errW_some] <;> rfl) | (simp [*, errW_none, errW_some] <;> rfl), by repeat (first | (with_reducible first | exact HB.out | apply wA | apply wN | apply wD | refine wS ?_ zk.out) | exact HB.out)⟩
     ·rw [if_neg c25] at H
      have c25b0 : (zi == 2) = false := beq_eq_false_iff_ne.mpr c25
      have c25b1 : (zi != 2) = true := bne_iff_ne.mpr c25
      by_cases c38 : zi = 3
      ·rw [if_pos c38] at H
       have c38b0 : (zi == 3) = true := beq_iff_eq.mpr c38
       have c38b1 : (zi != 3) = false := bne_eq_false_iff_eq.mpr c38
       clear c38
       by_cases c39 : (wrap64 ((wrap64 ((zb.length : Int) + (ze.length : Int))) + (zc.length : Int))) = 0
       ·rw [if_pos c39] at H
        have c39b0 : ((wrap64 ((wrap64 ((zb.length : Int) + (ze.length : Int))) + (zc.length : Int))) == 0) = true := beq_iff_eq.mpr c39
        have c39b1 : ((wrap64 ((wrap64 ((zb.length : Int) + (ze.length : Int))) + (zc.length : Int))) != 0) = false := bne_eq_false_iff_eq.mpr c39
        clear c39
        replace H := Option.bind_eq_some_iff.mp H
        obtain ⟨jk, zbw, H⟩ := H
        replace H : (if jk = true then ((page_in.f zf).bind fun zt => (if zt = true then (if zg ≥ 0 then (if zg ≤ 65536 then (if zj ≥ 0 then (some (decide (zj ≤ zg))) else (some false)) else (some false)) else (some false)) else (some false))) else (some false)) = some r := H
        have A40 := Aside0.mk zbw
        clear zbw
        by_cases c41 : jk = true
        ·subst c41
         have H1 : ((page_in.f zf).bind fun zt => (if zt = true then (if zg ≥ 0 then (if zg ≤ 65536 then (if zj ≥ 0 then (some (decide (zj ≤ zg))) else (some false)) else (some false)) else (some false)) else (some false))) = some r := by rw [if_pos rfl] at H; exact H
         clear H
         have H := H1
         clear H1
         replace H := Option.bind_eq_some_iff.mp H
         obtain ⟨zt, zbx, H⟩ := H
         replace H : (if zt = true then (if zg ≥ 0 then (if zg ≤ 65536 then (if zj ≥ 0 then (some (decide (zj ≤ zg))) else (some false)) else (some false)) else (some false)) else (some false)) = some r := H
         have A42 := Aside0.mk zbx
         clear zbx
         by_cases c43 : zt = true
         ·subst c43
          have H1 : (if zg ≥ 0 then (if zg ≤ 65536 then (if zj ≥ 0 then (some (decide (zj ≤ zg))) else (some false)) else (some false)) else (some false)) = some r := by rw [if_pos rfl] at H; exact H
          clear H
          have H := H1
          clear H1
          by_cases c44 : zg ≥ 0
          ·rw [if_pos c44] at H
           have c44b0 : decide (0 ≤ zg) = true := decide_eq_true c44
           clear c44
           by_cases c45 : zg ≤ 65536
           ·rw [if_pos c45] at H
            have c45b0 : decide (zg ≤ 65536) = true := decide_eq_true c45
            clear c45
            by_cases c46 : zj ≥ 0
            ·rw [if_pos c46] at H
             have c46b0 : decide (0 ≤ zj) = true := decide_eq_true c46
             clear c46
             obtain rfl := Option.some.inj H
             obtain ⟨zgw, zgx, zgy, zgz, zg0, zg1, zg2, zg3⟩ := cells8 (w := wc) za.out
             obtain ⟨zg4, zg5, zg6, zg7, zg8, zg9, zha, zhb⟩ := frozen8 za.out
             go_wp2_with (first | (go_at_call 42; (with_reducible refine (page_in.calls zh true _ A40.out).mono ?_); rintro e w' ⟨rfl, ⟨nd, rfl⟩⟩; (try first | exact ⟨rfl, _, World.drewN_drewN _ _ _⟩ | exact ⟨rfl, _, Eq.trans (World.drewN_drewN _ _ _) (congrArg (World.drewN _) (Nat.add_assoc _ _ _))⟩)) | (go_at_call 42; (with_reducible refine (page_in.calls zf true _ A42.out).mono ?_); rintro e w' ⟨rfl, ⟨nd, rfl⟩⟩; (try first | exact ⟨rfl, _, World.drewN_drewN _ _ _⟩ | exact ⟨rfl, _, Eq.trans (World.drewN_drewN _ _ _) (congrArg (World.drewN _) (Nat.add_assoc _ _ _))⟩)))
             repeat (go_quiet (first | (go_at_call 42; (with_reducible refine (page_in.calls zh true _ A40.out).mono ?_); rintro e w' ⟨rfl, ⟨nd, rfl⟩⟩; (try first | exact ⟨rfl, _, World.drewN_drewN _ _ _⟩ | exact ⟨rfl, _, Eq.trans (World.drewN_drewN _ _ _) (congrArg (World.drewN _) (Nat.add_assoc _ _ _))⟩)) | (go_at_call 42; (with_reducible refine (page_in.calls zf true _ A42.out).mono ?_); rintro e w' ⟨rfl, ⟨nd, rfl⟩⟩; (try first | exact ⟨rfl, _, World.drewN_drewN _ _ _⟩ | exact ⟨rfl, _, Eq.trans (World.drewN_drewN _ _ _) (congrArg (World.drewN _) (Nat.add_assoc _ _ _))⟩))); try go_wp2_with (first | (go_at_call 42; (with_reducible refine (page_in.calls zh true _ A40.out).mono ?_); rintro e w' ⟨rfl, ⟨nd, rfl⟩⟩; (try first | exact ⟨rfl, _, World.drewN_drewN _ _ _⟩ | exact ⟨rfl, _, Eq.trans (World.drewN_drewN _ _ _) (congrArg (World.drewN _) (Nat.add_assoc _ _ _))⟩)) | (go_at_call 42; (with_reducible refine (page_in.calls zf true _ A42.out).mono ?_); rintro e w' ⟨rfl, ⟨nd, rfl⟩⟩; (try first | exact ⟨rfl, _, World.drewN_drewN _ _ _⟩ | exact ⟨rfl, _, Eq.trans (World.drewN_drewN _ _ _) (congrArg (World.drewN _) (Nat.add_assoc _ _ _))⟩))))
             go_ret
             exact ⟨by first | rfl | (simp [errW_none, errW_some] <;> rfl) | (simp [*, errW_none, errW_some] <;> rfl), by repeat (first | (with_reducible first | exact HB.out | apply wA | apply wN | apply wD | refine wS ?_ zk.out) | exact HB.out)⟩
            ·rw [if_neg c46] at H
             have c46b0 : decide (0 ≤ zj) = false := decide_eq_false c46
             clear c46
             obtain rfl := Option.some.inj H
             obtain ⟨zhc, zhd, zhe, zhf, zhg, zhh, zhi, zhj⟩ := cells8 (w := wc) za.out
             obtain ⟨zhk, zhl, zhm, zhn, zho, zhp, zhq, zhr⟩ := frozen8 za.out
             go_wp2_with (first | (go_at_call 42; (with_reducible refine (page_in.calls zh true _ A40.out).mono ?_); rintro e w' ⟨rfl, ⟨nd, rfl⟩⟩; (try first | exact ⟨rfl, _, World.drewN_drewN _ _ _⟩ | exact ⟨rfl, _, Eq.trans (World.drewN_drewN _ _ _) (congrArg (World.drewN _) (Nat.add_assoc _ _ _))⟩)) | (go_at_call 42; (with_reducible refine (page_in.calls zf true _ A42.out).mono ?_); rintro e w' ⟨rfl, ⟨nd, rfl⟩⟩; (try first | exact ⟨rfl, _, World.drewN_drewN _ _ _⟩ | exact ⟨rfl, _, Eq.trans (World.drewN_drewN _ _ _) (congrArg (World.drewN _) (Nat.add_assoc _ _ _))⟩)))
             repeat (go_quiet (first | (go_at_call 42; (with_reducible refine (page_in.calls zh true _ A40.out).mono ?_); rintro e w' ⟨rfl, ⟨nd, rfl⟩⟩; (try first | exact ⟨rfl, _, World.drewN_drewN _ _ _⟩ | exact ⟨rfl, _, Eq.trans (World.drewN_drewN _ _ _) (congrArg (World.drewN _) (Nat.add_assoc _ _ _))⟩)) | (go_at_call 42; (with_reducible refine (page_in.calls zf true _ A42.out).mono ?_); rintro e w' ⟨rfl, ⟨nd, rfl⟩⟩; (try first | exact ⟨rfl, _, World.drewN_drewN _ _ _⟩ | exact ⟨rfl, _, Eq.trans (World.drewN_drewN _ _ _) (congrArg (World.drewN _) (Nat.add_assoc _ _ _))⟩))); try go_wp2_with (first | (go_at_call 42; (with_reducible refine (page_in.calls zh true _ A40.out).mono ?_); rintro e w' ⟨rfl, ⟨nd, rfl⟩⟩; (try first | exact ⟨rfl, _, World.drewN_drewN _ _ _⟩ | exact ⟨rfl, _, Eq.trans (World.drewN_drewN _ _ _) (congrArg (World.drewN _) (Nat.add_assoc _ _ _))⟩)) | (go_at_call 42; (with_reducible refine (page_in.calls zf true _ A42.out).mono ?_); rintro e w' ⟨rfl, ⟨nd, rfl⟩⟩; (try first | exact ⟨rfl, _, World.drewN_drewN _ _ _⟩ | exact ⟨rfl, _, Eq.trans (World.drewN_drewN _ _ _) (congrArg (World.drewN _) (Nat.add_assoc _ _ _))⟩))))
             go_ret
             exact ⟨by first | rfl | (simp [errW_none, errW_some] <;> rfl) | (simp [*, errW_none, errW_some] <;> rfl), by repeat (first | (with_reducible first | exact HB.out | apply wA | apply wN | apply wD | refine wS ?_ zk.out) | exact HB.out)⟩
           ·rw [if_neg c45] at H
            have c45b0 : decide (zg ≤ 65536) = false := decide_eq_false c45
            clear c45
            obtain rfl := Option.some.inj H
            obtain ⟨zhs, zht, zhu, zhv, zhw, zhx, zhy, zhz⟩ := cells8 (w := wc) za.out
            obtain ⟨zh0, zh1, zh2, zh3, zh4, zh5, zh6, zh7⟩ := frozen8 za.out
            go_wp2_with (first | (go_at_call 42; (with_reducible refine (page_in.calls zh true _ A40.out).mono ?_); rintro e w' ⟨rfl, ⟨nd, rfl⟩⟩; (try first | exact ⟨rfl, _, World.drewN_drewN _ _ _⟩ | exact ⟨rfl, _, Eq.trans (World.drewN_drewN _ _ _) (congrArg (World.drewN _) (Nat.add_assoc _ _ _))⟩)) | (go_at_call 42; (with_reducible refine (page_in.calls zf true _ A42.out).mono ?_); rintro e w' ⟨rfl, ⟨nd, rfl⟩⟩; (try first | exact ⟨rfl, _, World.drewN_drewN _ _ _⟩ | exact ⟨rfl, _, Eq.trans (World.drewN_drewN _ _ _) (congrArg (World.drewN _) (Nat.add_assoc _ _ _))⟩)))
            repeat (go_quiet (first | (go_at_call 42; (with_reducible refine (page_in.calls zh true _ A40.out).mono ?_); rintro e w' ⟨rfl, ⟨nd, rfl⟩⟩; (try first | exact ⟨rfl, _, World.drewN_drewN _ _ _⟩ | exact ⟨rfl, _, Eq.trans (World.drewN_drewN _ _ _) (congrArg (World.drewN _) (Nat.add_assoc _ _ _))⟩)) | (go_at_call 42; (with_reducible refine (page_in.calls zf true _ A42.out).mono ?_); rintro e w' ⟨rfl, ⟨nd, rfl⟩⟩; (try first | exact ⟨rfl, _, World.drewN_drewN _ _ _⟩ | exact ⟨rfl, _, Eq.trans (World.drewN_drewN _ _ _) (congrArg (World.drewN _) (Nat.add_assoc _ _ _))⟩))); try go_wp2_with (first | (go_at_call 42; (with_reducible refine (page_in.calls zh true _ A40.out).mono ?_); rintro e w' ⟨rfl, ⟨nd, rfl⟩⟩; (try first | exact ⟨rfl, _, World.drewN_drewN _ _ _⟩ | exact ⟨rfl, _, Eq.trans (World.drewN_drewN _ _ _) (congrArg (World.drewN _) (Nat.add_assoc _ _ _))⟩)) | (go_at_call 42; (with_reducible refine (page_in.calls zf true _ A42.out).mono ?_); rintro e w' ⟨rfl, ⟨nd, rfl⟩⟩; (try first | exact ⟨rfl, _, World.drewN_drewN _ _ _⟩ | exact ⟨rfl, _, Eq.trans (World.drewN_drewN _ _ _) (congrArg (World.drewN _) (Nat.add_assoc _ _ _))⟩))))
            go_ret
            exact ⟨by first | rfl | (simp [errW_none, errW_some] <;> rfl) | (simp [*, errW_none, errW_some] <;> rfl), by repeat (first | (with_reducible first | exact HB.out | apply wA | apply wN | apply wD | refine wS ?_ zk.out) | exact HB.out)⟩
          ·rw [if_neg c44] at H
           have c44b0 : decide (0 ≤ zg) = false := decide_eq_false c44
           clear c44
           obtain rfl := Option.some.inj H
           obtain ⟨zh8, zh9, zia, zib, zic, zid, zie, zif⟩ := cells8 (w := wc) za.out
           obtain ⟨zig, zih, zii, zij, zik, zil, zim, zin⟩ := frozen8 za.out
           go_wp2_with (first | (go_at_call 42; (with_reducible refine (page_in.calls zh true _ A40.out).mono ?_); rintro e w' ⟨rfl, ⟨nd, rfl⟩⟩; (try first | exact ⟨rfl, _, World.drewN_drewN _ _ _⟩ | exact ⟨rfl, _, Eq.trans (World.drewN_drewN _ _ _) (congrArg (World.drewN _) (Nat.add_assoc _ _ _))⟩)) | (go_at_call 42; (with_reducible refine (page_in.calls zf true _ A42.out).mono ?_); rintro e w' ⟨rfl, ⟨nd, rfl⟩⟩; (try first | exact ⟨rfl, _, World.drewN_drewN _ _ _⟩ | exact ⟨rfl, _, Eq.trans (World.drewN_drewN _ _ _) (congrArg (World.drewN _) (Nat.add_assoc _ _ _))⟩)))
           repeat (go_quiet (first | (go_at_call 42; (with_reducible refine (page_in.calls zh true _ A40.out).mono ?_); rintro e w' ⟨rfl, ⟨nd, rfl⟩⟩; (try first | exact ⟨rfl, _, World.drewN_drewN _ _ _⟩ | exact ⟨rfl, _, Eq.trans (World.drewN_drewN _ _ _) (congrArg (World.drewN _) (Nat.add_assoc _ _ _))⟩)) | (go_at_call 42; (with_reducible refine (page_in.calls zf true _ A42.out).mono ?_); rintro e w' ⟨rfl, ⟨nd, rfl⟩⟩; (try first | exact ⟨rfl, _, World.drewN_drewN _ _ _⟩ | exact ⟨rfl, _, Eq.trans (World.drewN_drewN _ _ _) (congrArg (World.drewN _) (Nat.add_assoc _ _ _))⟩))); try go_wp2_with (first | (go_at_call 42; (with_reducible refine (page_in.calls zh true _ A40.out).mono ?_); rintro e w' ⟨rfl, ⟨nd, rfl⟩⟩; (try first | exact ⟨rfl, _, World.drewN_drewN _ _ _⟩ | exact ⟨rfl, _, Eq.trans (World.drewN_drewN _ _ _) (congrArg (World.drewN _) (Nat.add_assoc _ _ _))⟩)) | (go_at_call 42; (with_reducible refine (page_in.calls zf true _ A42.out).mono ?_); rintro e w' ⟨rfl, ⟨nd, rfl⟩⟩; (try first | exact ⟨rfl, _, World.drewN_drewN _ _ _⟩ | exact ⟨rfl, _, Eq.trans (World.drewN_drewN _ _ _) (congrArg (World.drewN _) (Nat.add_assoc _ _ _))⟩))))
           go_ret
           exact ⟨by first | rfl | (simp [errW_none, errW_some] <;> rfl) | (simp [*, errW_none, errW_some] <;> rfl), by repeat (first | (with_reducible first | exact HB.out | apply wA | apply wN | apply wD | refine wS ?_ zk.out) | exact HB.out)⟩
         ·replace c43 := Bool.eq_false_iff.mpr c43
          subst c43
          have H1 : (some false) = some r := by rw [if_neg (show ¬ (false = true) by decide)] at H; exact H
          clear H
          have H := H1
          clear H1
          obtain rfl := Option.some.inj H
          obtain ⟨zio, zip, ziq, zir, zis, zit, ziu, ziv⟩ := cells8 (w := wc) za.out
          obtain ⟨ziw, zix, ziy, ziz, zi0, zi1, zi2, zi3⟩ := frozen8 za.out
          go_wp2_with (first | (go_at_call 42; (with_reducible refine (page_in.calls zh true _ A40.out).mono ?_); rintro e w' ⟨rfl, ⟨nd, rfl⟩⟩; (try first | exact ⟨rfl, _, World.drewN_drewN _ _ _⟩ | exact ⟨rfl, _, Eq.trans (World.drewN_drewN _ _ _) (congrArg (World.drewN _) (Nat.add_assoc _ _ _))⟩)) | (go_at_call 42; (with_reducible refine (page_in.calls zf false _ A42.out).mono ?_); rintro e w' ⟨rfl, ⟨nd, rfl⟩⟩; (try first | exact ⟨rfl, _, World.drewN_drewN _ _ _⟩ | exact ⟨rfl, _, Eq.trans (World.drewN_drewN _ _ _) (congrArg (World.drewN _) (Nat.add_assoc _ _ _))⟩)))
          repeat (go_quiet (first | (go_at_call 42; (with_reducible refine (page_in.calls zh true _ A40.out).mono ?_); rintro e w' ⟨rfl, ⟨nd, rfl⟩⟩; (try first | exact ⟨rfl, _, World.drewN_drewN _ _ _⟩ | exact ⟨rfl, _, Eq.trans (World.drewN_drewN _ _ _) (congrArg (World.drewN _) (Nat.add_assoc _ _ _))⟩)) | (go_at_call 42; (with_reducible refine (page_in.calls zf false _ A42.out).mono ?_); rintro e w' ⟨rfl, ⟨nd, rfl⟩⟩; (try first | exact ⟨rfl, _, World.drewN_drewN _ _ _⟩ | exact ⟨rfl, _, Eq.trans (World.drewN_drewN _ _ _) (congrArg (World.drewN _) (Nat.add_assoc _ _ _))⟩))); try go_wp2_with (first | (go_at_call 42; (with_reducible refine (page_in.calls zh true _ A40.out).mono ?_); rintro e w' ⟨rfl, ⟨nd, rfl⟩⟩; (try first | exact ⟨rfl, _, World.drewN_drewN _ _ _⟩ | exact ⟨rfl, _, Eq.trans (World.drewN_drewN _ _ _) (congrArg (World.drewN _) (Nat.add_assoc _ _ _))⟩)) | (go_at_call 42; (with_reducible refine (page_in.calls zf false _ A42.out).mono ?_); rintro e w' ⟨rfl, ⟨nd, rfl⟩⟩; (try first | exact ⟨rfl, _, World.drewN_drewN _ _ _⟩ | exact ⟨rfl, _, Eq.trans (World.drewN_drewN _ _ _) (congrArg (World.drewN _) (Nat.add_assoc _ _ _))⟩))))
          go_ret
          exact ⟨by first | rfl | (simp [errW_none, errW_some] <;> rfl) | (simp [*, errW_none, errW_some] <;> rfl), by repeat (first | (with_reducible first | exact HB.out | apply wA | apply wN | apply wD | refine wS ?_ zk.out) | exact HB.out)⟩
        ·replace c41 := Bool.eq_false_iff.mpr c41
         subst c41
         have H1 : (some false) = some r := by rw [if_neg (show ¬ (false = true) by decide)] at H; exact H
         clear H
         have H := H1
         clear H1
         obtain rfl := Option.some.inj H
         obtain ⟨zi4, zi5, zi6, zi7, zi8, zi9, zja, zjb⟩ := cells8 (w := wc) za.out
         obtain ⟨zjc, zjd, zje, zjf, zjg, zjh, zji, zjj⟩ := frozen8 za.out
         go_wp2_with (first | (go_at_call 42; (with_reducible refine (page_in.calls zh false _ A40.out).mono ?_); rintro e w' ⟨rfl, ⟨nd, rfl⟩⟩; (try first | exact ⟨rfl, _, World.drewN_drewN _ _ _⟩ | exact ⟨rfl, _, Eq.trans (World.drewN_drewN _ _ _) (congrArg (World.drewN _) (Nat.add_assoc _ _ _))⟩)))
         repeat (go_quiet (first | (go_at_call 42; (with_reducible refine (page_in.calls zh false _ A40.out).mono ?_); rintro e w' ⟨rfl, ⟨nd, rfl⟩⟩; (try first | exact ⟨rfl, _, World.drewN_drewN _ _ _⟩ | exact ⟨rfl, _, Eq.trans (World.drewN_drewN _ _ _) (congrArg (World.drewN _) (Nat.add_assoc _ _ _))⟩))); try go_wp2_with (first | (go_at_call 42; (with_reducible refine (page_in.calls zh false _ A40.out).mono ?_); rintro e w' ⟨rfl, ⟨nd, rfl⟩⟩; (try first | exact ⟨rfl, _, World.drewN_drewN _ _ _⟩ | exact ⟨rfl, _, Eq.trans (World.drewN_drewN _ _ _) (congrArg (World.drewN _) (Nat.add_assoc _ _ _))⟩))))
         go_ret
         exact ⟨by first | rfl | (simp [errW_none, errW_some] <;> rfl) | (simp [*, errW_none, errW_some] <;> rfl), by repeat (first | (with_reducible first | exact HB.out | apply wA | apply wN | apply wD | refine wS ?_ zk.out) | exact HB.out)⟩
       ·rw [if_neg c39] at H
        have c39b0 : ((wrap64 ((wrap64 ((zb.length : Int) + (ze.length : Int))) + (zc.length : Int))) == 0) = false := beq_eq_false_iff_ne.mpr c39
        have c39b1 : ((wrap64 ((wrap64 ((zb.length : Int) + (ze.length : Int))) + (zc.length : Int))) != 0) = true := bne_iff_ne.mpr c39
        obtain rfl := Option.some.inj H
        obtain ⟨zjk, zjl, zjm, zjn, zjo, zjp, zjq, zjr⟩ := cells8 (w := wc) za.out
        obtain ⟨zjs, zjt, zju, zjv, zjw, zjx, zjy, zjz⟩ := frozen8 za.out
        go_wp2
        repeat (go_quiet (fail); try go_wp2)
        go_ret
        exact ⟨by first | rfl | (simp [errW_none, errW_some] <;> rfl) | (simp [*, errW_none, errW_some] <;> rfl), by repeat (first | (with_reducible first | exact HB.out | apply wA | apply wN | apply wD | refine wS ?_ zk.out) | exact HB.out)⟩
      ·rw [if_neg c38] at H
       have c38b0 : (zi == 3) = false := beq_eq_false_iff_ne.mpr c38
       have c38b1 : (zi != 3) = true := bne_iff_ne.mpr c38
       by_cases c54 : zi = 4
       ·rw [if_pos c54] at H
        have c54b0 : (zi == 4) = true := beq_iff_eq.mpr c54
        have c54b1 : (zi != 4) = false := bne_eq_false_iff_eq.mpr c54
        clear c54
        by_cases c55 : (wrap64 ((wrap64 ((zb.length : Int) + (ze.length : Int))) + (zc.length : Int))) = 0
        ·rw [if_pos c55] at H
         have c55b0 : ((wrap64 ((wrap64 ((zb.length : Int) + (ze.length : Int))) + (zc.length : Int))) == 0) = true := beq_iff_eq.mpr c55
         have c55b1 : ((wrap64 ((wrap64 ((zb.length : Int) + (ze.length : Int))) + (zc.length : Int))) != 0) = false := bne_eq_false_iff_eq.mpr c55
         clear c55
         by_cases c56 : zh = 0
         ·rw [if_pos c56] at H
          have c56b0 : (zh == 0) = true := beq_iff_eq.mpr c56
          have c56b1 : (zh != 0) = false := bne_eq_false_iff_eq.mpr c56
          clear c56
          replace H := Option.bind_eq_some_iff.mp H
          obtain ⟨jl, zby, H⟩ := H
          replace H : (if jl = true then (if zg = 0 then (some (zj == 0)) else (some false)) else (some false)) = some r := H
          have A57 := Aside0.mk zby
          clear zby
          by_cases c58 : jl = true
          ·subst c58
           have H1 : (if zg = 0 then (some (zj == 0)) else (some false)) = some r := by rw [if_pos rfl] at H; exact H
           clear H
           have H := H1
           clear H1
           by_cases c59 : zg = 0
           ·rw [if_pos c59] at H
            have c59b0 : (zg == 0) = true := beq_iff_eq.mpr c59
            have c59b1 : (zg != 0) = false := bne_eq_false_iff_eq.mpr c59
            clear c59
            obtain rfl := Option.some.inj H
            obtain ⟨zj0, zj1, zj2, zj3, zj4, zj5, zj6, zj7⟩ := cells8 (w := wc) za.out
            obtain ⟨zj8, zj9, zka, zkb, zkc, zkd, zke, zkf⟩ := frozen8 za.out
            go_wp2_with (first | (go_at_call 42; (with_reducible refine (page_in.calls zf true _ A57.out).mono ?_); rintro e w' ⟨rfl, ⟨nd, rfl⟩⟩; (try first | exact ⟨rfl, _, World.drewN_drewN _ _ _⟩ | exact ⟨rfl, _, Eq.trans (World.drewN_drewN _ _ _) (congrArg (World.drewN _) (Nat.add_assoc _ _ _))⟩)))
            repeat (go_quiet (first | (go_at_call 42; (with_reducible refine (page_in.calls zf true _ A57.out).mono ?_); rintro e w' ⟨rfl, ⟨nd, rfl⟩⟩; (try first | exact ⟨rfl, _, World.drewN_drewN _ _ _⟩ | exact ⟨rfl, _, Eq.trans (World.drewN_drewN _ _ _) (congrArg (World.drewN _) (Nat.add_assoc _ _ _))⟩))); try go_wp2_with (first | (go_at_call 42; (with_reducible refine (page_in.calls zf true _ A57.out).mono ?_); rintro e w' ⟨rfl, ⟨nd, rfl⟩⟩; (try first | exact ⟨rfl, _, World.drewN_drewN _ _ _⟩ | exact ⟨rfl, _, Eq.trans (World.drewN_drewN _ _ _) (congrArg (World.drewN _) (Nat.add_assoc _ _ _))⟩))))
            go_ret
            exact ⟨by first | rfl | (simp [errW_none, errW_some] <;> rfl) | (simp [*, errW_none, errW_some] <;> rfl), by repeat (first | (with_reducible first | exact HB.out | apply wA | apply wN | apply wD | refine wS ?_ zk.out) | exact HB.out)⟩
           ·rw [if_neg c59] at H
            have c59b0 : (zg == 0) = false := beq_eq_false_iff_ne.mpr c59
            have c59b1 : (zg != 0) = true := bne_iff_ne.mpr c59
            obtain rfl := Option.some.inj H
            obtain ⟨zkg, zkh, zki, zkj, zkk, zkl, zkm, zkn⟩ := cells8 (w := wc) za.out
            obtain ⟨zko, zkp, zkq, zkr, zks, zkt, zku, zkv⟩ := frozen8 za.out
            go_wp2_with (first | (go_at_call 42; (with_reducible refine (page_in.calls zf true _ A57.out).mono ?_); rintro e w' ⟨rfl, ⟨nd, rfl⟩⟩; (try first | exact ⟨rfl, _, World.drewN_drewN _ _ _⟩ | exact ⟨rfl, _, Eq.trans (World.drewN_drewN _ _ _) (congrArg (World.drewN _) (Nat.add_assoc _ _ _))⟩)))
            repeat (go_quiet (first | (go_at_call 42; (with_reducible refine (page_in.calls zf true _ A57.out).mono ?_); rintro e w' ⟨rfl, ⟨nd, rfl⟩⟩; (try first | exact ⟨rfl, _, World.drewN_drewN _ _ _⟩ | exact ⟨rfl, _, Eq.trans (World.drewN_drewN _ _ _) (congrArg (World.drewN _) (Nat.add_assoc _ _ _))⟩))); try go_wp2_with (first | (go_at_call 42; (with_reducible refine (page_in.calls zf true _ A57.out).mono ?_); rintro e w' ⟨rfl, ⟨nd, rfl⟩⟩; (try first | exact ⟨rfl, _, World.drewN_drewN _ _ _⟩ | exact ⟨rfl, _, Eq.trans (World.drewN_drewN _ _ _) (congrArg (World.drewN _) (Nat.add_assoc _ _ _))⟩))))
            go_ret
            exact ⟨by first | rfl | (simp [errW_none, errW_some] <;> rfl) | (simp [*, errW_none, errW_some] <;> rfl), by repeat (first | (with_reducible first | exact HB.out | apply wA | apply wN | apply wD | refine wS ?_ zk.out) | exact HB.out)⟩
          ·replace c58 := Bool.eq_false_iff.mpr c58
           subst c58
           have H1 : (some false) = some r := by rw [if_neg (show ¬ (false = true) by decide)] at H; exact H
           clear H
           have H := H1
           clear H1
           obtain rfl := Option.some.inj H
           obtain ⟨zkw, zkx, zky, zkz, zk0, zk1, zk2, zk3⟩ := cells8 (w := wc) za.out
           obtain ⟨zk4, zk5, zk6, zk7, zk8, zk9, zla, zlb⟩ := frozen8 za.out
           go_wp2_with (first | (go_at_call 42; (with_reducible refine (page_in.calls zf false _ A57.out).mono ?_); rintro e w' ⟨rfl, ⟨nd, rfl⟩⟩; (try first | exact ⟨rfl, _, World.drewN_drewN _ _ _⟩ | exact ⟨rfl, _, Eq.trans (World.drewN_drewN _ _ _) (congrArg (World.drewN _) (Nat.add_assoc _ _ _))⟩)))
           repeat (go_quiet (first | (go_at_call 42; (with_reducible refine (page_in.calls zf false _ A57.out).mono ?_); rintro e w' ⟨rfl, ⟨nd, rfl⟩⟩; (try first | exact ⟨rfl, _, World.drewN_drewN _ _ _⟩ | exact ⟨rfl, _, Eq.trans (World.drewN_drewN _ _ _) (congrArg (World.drewN _) (Nat.add_assoc _ _ _))⟩))); try go_wp2_with (first | (go_at_call 42; (with_reducible refine (page_in.calls zf false _ A57.out).mono ?_); rintro e w' ⟨rfl, ⟨nd, rfl⟩⟩; (try first | exact ⟨rfl, _, World.drewN_drewN _ _ _⟩ | exact ⟨rfl, _, Eq.trans (World.drewN_drewN _ _ _) (congrArg (World.drewN _) (Nat.add_assoc _ _ _))⟩))))
           go_ret
           exact ⟨by first | rfl | (simp [errW_none, errW_some] <;> rfl) | (simp [*, errW_none, errW_some] <;> rfl), by repeat (first | (with_reducible first | exact HB.out | apply wA | apply wN | apply wD | refine wS ?_ zk.out) | exact HB.out)⟩
         ·rw [if_neg c56] at H
          have c56b0 : (zh == 0) = false := beq_eq_false_iff_ne.mpr c56
          have c56b1 : (zh != 0) = true := bne_iff_ne.mpr c56
          obtain rfl := Option.some.inj H
          obtain ⟨zlc, zld, zle, zlf, zlg, zlh, zli, zlj⟩ := cells8 (w := wc) za.out
          obtain ⟨zlk, zll, zlm, zln, zlo, zlp, zlq, zlr⟩ := frozen8 za.out
          go_wp2
          repeat (go_quiet (fail); try go_wp2)
          go_ret
          exact ⟨by first | rfl | (simp [errW_none, errW_some] <;> rfl) | (simp [*, errW_none, errW_some] <;> rfl), by repeat (first | (with_reducible first | exact HB.out | apply wA | apply wN | apply wD | refine wS ?_ zk.out) | exact HB.out)⟩
        ·rw [if_neg c55] at H
         have c55b0 : ((wrap64 ((wrap64 ((zb.length : Int) + (ze.length : Int))) + (zc.length : Int))) == 0) = false := beq_eq_false_iff_ne.mpr c55
         have c55b1 : ((wrap64 ((wrap64 ((zb.length : Int) + (ze.length : Int))) + (zc.length : Int))) != 0) = true := bne_iff_ne.mpr c55
         obtain rfl := Option.some.inj H
         obtain ⟨zls, zlt, zlu, zlv, zlw, zlx, zly, zlz⟩ := cells8 (w := wc) za.out
         obtain ⟨zl0, zl1, zl2, zl3, zl4, zl5, zl6, zl7⟩ := frozen8 za.out
         go_wp2
         repeat (go_quiet (fail); try go_wp2)
         go_ret
         exact ⟨by first | rfl | (simp [errW_none, errW_some] <;> rfl) | (simp [*, errW_none, errW_some] <;> rfl), by repeat (first | (with_reducible first | exact HB.out | apply wA | apply wN | apply wD | refine wS ?_ zk.out) | exact HB.out)⟩
       ·rw [if_neg c54] at H
        have c54b0 : (zi == 4) = false := beq_eq_false_iff_ne.mpr c54
        have c54b1 : (zi != 4) = true := bne_iff_ne.mpr c54
        obtain rfl := Option.some.inj H
        obtain ⟨zl8, zl9, zma, zmb, zmc, zmd, zme, zmf⟩ := cells8 (w := wc) za.out
        obtain ⟨zmg, zmh, zmi, zmj, zmk, zml, zmm, zmn⟩ := frozen8 za.out
        go_wp2
        repeat (go_quiet (fail); try go_wp2)
        go_ret
        exact ⟨by first | rfl | (simp [errW_none, errW_some] <;> rfl) | (simp [*, errW_none, errW_some] <;> rfl), by repeat (first | (with_reducible first | exact HB.out | apply wA | apply wN | apply wD | refine wS ?_ zk.out) | exact HB.out)⟩
 ·replace c3 := Bool.eq_false_iff.mpr c3
  subst c3
  have H1 : (some false) = some r := by rw [if_neg (show ¬ (false = true) by decide)] at H; exact H
  clear H
  have H := H1
  clear H1
  obtain rfl := Option.some.inj H
  go_enter Try.func17, Try.ntmps17
  go_wp2_with (first | ((with_reducible refine gate_dst (N := 1) rfl ?_); refine box_event ?hg (N := 1) ?hd (cs := #[.int .i64 zi, .slice zl zb.length zm, .slice zn ze.length zo, .slice zp zc.length zq, .int .i64 zh, .int .i64 zf, .int .i64 zg, .int .i64 zj]) (t := 27) ?hr ?_; (case hd => rfl); (case hg => rfl); (case hr => first | (go_simp; done) | (go_simp; rfl)); intro zd hg w66 hbox hb; have n0_ := Aside0.mk (below_step (by repeat (first | (with_reducible first | exact HB.out | apply wA | apply wN | apply wD) | exact HB.out)) hb); have n1_ := Aside0.mk (hbox); have n2_ := Aside0.mk ((by rw [hg]; exact (below_size (by repeat (first | (with_reducible first | exact HB.out | apply wA | apply wN | apply wD) | exact HB.out))) : w.heap.size ≤ zd)); have n3_ := Aside0.mk ((by rw [hg]; exact (below_size (by repeat (first | (with_reducible first | exact HB.out | apply wA | apply wN | apply wD) | exact HB.out))) : w.heap.size ≤ zd)); clear HB; have HB := n0_; have za := n1_; have zy := n2_; have zk := n3_; clear n0_ n1_ n2_ n3_; clear hb hbox hg; have yu : w66.cell? ⟨zd, 0, none⟩ = some (.int .i64 zi) := (blk_cell za.out 0).trans rfl; have yv : w66.cell? ⟨zd, 1, none⟩ = some (.slice zl zb.length zm) := (blk_cell za.out 1).trans rfl; have yw : w66.cell? ⟨zd, 2, none⟩ = some (.slice zn ze.length zo) := (blk_cell za.out 2).trans rfl; have yx : w66.cell? ⟨zd, 3, none⟩ = some (.slice zp zc.length zq) := (blk_cell za.out 3).trans rfl; have yy : w66.cell? ⟨zd, 4, none⟩ = some (.int .i64 zh) := (blk_cell za.out 4).trans rfl; have yz : w66.cell? ⟨zd, 5, none⟩ = some (.int .i64 zf) := (blk_cell za.out 5).trans rfl; have ja : w66.cell? ⟨zd, 6, none⟩ = some (.int .i64 zg) := (blk_cell za.out 6).trans rfl; have jb : w66.cell? ⟨zd, 7, none⟩ = some (.int .i64 zj) := (blk_cell za.out 7).trans rfl; have jc := blk_frozen za.out 0; have jd := blk_frozen za.out 1; have je := blk_frozen za.out 2; have jf := blk_frozen za.out 3; have jg := blk_frozen za.out 4; have jh := blk_frozen za.out 5; have ji := blk_frozen za.out 6; have jj := blk_frozen za.out 7) | (go_at_call 37; (with_reducible refine (page_rising.calls k _ _ zb false _ ?side1 ?side2 A2.out).mono ?_); (case side1 => repeat (first | exact (Kd.C_below zw.out HB.out) | (with_reducible refine Kd.C_alloc ?_ _) | (with_reducible refine Kd.C_drewN ?_ _) | (with_reducible refine Kd.C_drew ?_))); (case side2 => exact zx.out); rintro e w' ⟨rfl, ⟨nd, rfl⟩⟩; (try first | exact ⟨rfl, _, World.drewN_drewN _ _ _⟩ | exact ⟨rfl, _, Eq.trans (World.drewN_drewN _ _ _) (congrArg (World.drewN _) (Nat.add_assoc _ _ _))⟩)))
  repeat (go_quiet (first | ((with_reducible refine gate_dst (N := 1) rfl ?_); refine box_event ?hg (N := 1) ?hd (cs := #[.int .i64 zi, .slice zl zb.length zm, .slice zn ze.length zo, .slice zp zc.length zq, .int .i64 zh, .int .i64 zf, .int .i64 zg, .int .i64 zj]) (t := 27) ?hr ?_; (case hd => rfl); (case hg => rfl); (case hr => first | (go_simp; done) | (go_simp; rfl)); intro zd hg w66 hbox hb; have n0_ := Aside0.mk (below_step (by repeat (first | (with_reducible first | exact HB.out | apply wA | apply wN | apply wD) | exact HB.out)) hb); have n1_ := Aside0.mk (hbox); have n2_ := Aside0.mk ((by rw [hg]; exact (below_size (by repeat (first | (with_reducible first | exact HB.out | apply wA | apply wN | apply wD) | exact HB.out))) : w.heap.size ≤ zd)); have n3_ := Aside0.mk ((by rw [hg]; exact (below_size (by repeat (first | (with_reducible first | exact HB.out | apply wA | apply wN | apply wD) | exact HB.out))) : w.heap.size ≤ zd)); clear HB; have HB := n0_; have za := n1_; have zy := n2_; have zk := n3_; clear n0_ n1_ n2_ n3_; clear hb hbox hg; have yu : w66.cell? ⟨zd, 0, none⟩ = some (.int .i64 zi) := (blk_cell za.out 0).trans rfl; have yv : w66.cell? ⟨zd, 1, none⟩ = some (.slice zl zb.length zm) := (blk_cell za.out 1).trans rfl; have yw : w66.cell? ⟨zd, 2, none⟩ = some (.slice zn ze.length zo) := (blk_cell za.out 2).trans rfl; have yx : w66.cell? ⟨zd, 3, none⟩ = some (.slice zp zc.length zq) := (blk_cell za.out 3).trans rfl; have yy : w66.cell? ⟨zd, 4, none⟩ = some (.int .i64 zh) := (blk_cell za.out 4).trans rfl; have yz : w66.cell? ⟨zd, 5, none⟩ = some (.int .i64 zf) := (blk_cell za.out 5).trans rfl; have ja : w66.cell? ⟨zd, 6, none⟩ = some (.int .i64 zg) := (blk_cell za.out 6).trans rfl; have jb : w66.cell? ⟨zd, 7, none⟩ = some (.int .i64 zj) := (blk_cell za.out 7).trans rfl; have jc := blk_frozen za.out 0; have jd := blk_frozen za.out 1; have je := blk_frozen za.out 2; have jf := blk_frozen za.out 3; have jg := blk_frozen za.out 4; have jh := blk_frozen za.out 5; have ji := blk_frozen za.out 6; have jj := blk_frozen za.out 7) | (go_at_call 37; (with_reducible refine (page_rising.calls k _ _ zb false _ ?side1 ?side2 A2.out).mono ?_); (case side1 => repeat (first | exact (Kd.C_below zw.out HB.out) | (with_reducible refine Kd.C_alloc ?_ _) | (with_reducible refine Kd.C_drewN ?_ _) | (with_reducible refine Kd.C_drew ?_))); (case side2 => exact zx.out); rintro e w' ⟨rfl, ⟨nd, rfl⟩⟩; (try first | exact ⟨rfl, _, World.drewN_drewN _ _ _⟩ | exact ⟨rfl, _, Eq.trans (World.drewN_drewN _ _ _) (congrArg (World.drewN _) (Nat.add_assoc _ _ _))⟩))); try go_wp2_with (first | ((with_reducible refine gate_dst (N := 1) rfl ?_); refine box_event ?hg (N := 1) ?hd (cs := #[.int .i64 zi, .slice zl zb.length zm, .slice zn ze.length zo, .slice zp zc.length zq, .int .i64 zh, .int .i64 zf, .int .i64 zg, .int .i64 zj]) (t := 27) ?hr ?_; (case hd => rfl); (case hg => rfl); (case hr => first | (go_simp; done) | (go_simp; rfl)); intro zd hg w66 hbox hb; have n0_ := Aside0.mk (below_step (by repeat (first | (with_reducible first | exact HB.out | apply wA | apply wN | apply wD) | exact HB.out)) hb); have n1_ := Aside0.mk (hbox); have n2_ := Aside0.mk ((by rw [hg]; exact (below_size (by repeat (first | (with_reducible first | exact HB.out | apply wA | apply wN | apply wD) | exact HB.out))) : w.heap.size ≤ zd)); have n3_ := Aside0.mk ((by rw [hg]; exact (below_size (by repeat (first | (with_reducible first | exact HB.out | apply wA | apply wN | apply wD) | exact HB.out))) : w.heap.size ≤ zd)); clear HB; have HB := n0_; have za := n1_; have zy := n2_; have zk := n3_; clear n0_ n1_ n2_ n3_; clear hb hbox hg; have yu : w66.cell? ⟨zd, 0, none⟩ = some (.int .i64 zi) := (blk_cell za.out 0).trans rfl; have yv : w66.cell? ⟨zd, 1, none⟩ = some (.slice zl zb.length zm) := (blk_cell za.out 1).trans rfl; have yw : w66.cell? ⟨zd, 2, none⟩ = some (.slice zn ze.length zo) := (blk_cell za.out 2).trans rfl; have yx : w66.cell? ⟨zd, 3, none⟩ = some (.slice zp zc.length zq) := (blk_cell za.out 3).trans rfl; have yy : w66.cell? ⟨zd, 4, none⟩ = some (.int .i64 zh) := (blk_cell za.out 4).trans rfl; have yz : w66.cell? ⟨zd, 5, none⟩ = some (.int .i64 zf) := (blk_cell za.out 5).trans rfl; have ja : w66.cell? ⟨zd, 6, none⟩ = some (.int .i64 zg) := (blk_cell za.out 6).trans rfl; have jb : w66.cell? ⟨zd, 7, none⟩ = some (.int .i64 zj) := (blk_cell za.out 7).trans rfl; have jc := blk_frozen za.out 0; have jd := blk_frozen za.out 1; have je := blk_frozen za.out 2; have jf := blk_frozen za.out 3; have jg := blk_frozen za.out 4; have jh := blk_frozen za.out 5; have ji := blk_frozen za.out 6; have jj := blk_frozen za.out 7) | (go_at_call 37; (with_reducible refine (page_rising.calls k _ _ zb false _ ?side1 ?side2 A2.out).mono ?_); (case side1 => repeat (first | exact (Kd.C_below zw.out HB.out) | (with_reducible refine Kd.C_alloc ?_ _) | (with_reducible refine Kd.C_drewN ?_ _) | (with_reducible refine Kd.C_drew ?_))); (case side2 => exact zx.out); rintro e w' ⟨rfl, ⟨nd, rfl⟩⟩; (try first | exact ⟨rfl, _, World.drewN_drewN _ _ _⟩ | exact ⟨rfl, _, Eq.trans (World.drewN_drewN _ _ _) (congrArg (World.drewN _) (Nat.add_assoc _ _ _))⟩))))
  go_ret
  exact ⟨by first | rfl | (simp [errW_none, errW_some] <;> rfl) | (simp [*, errW_none, errW_some] <;> rfl), by repeat (first | (with_reducible first | exact HB.out | apply wA | apply wN | apply wD | refine wS ?_ zk.out) | exact HB.out)⟩

end Go.Proofs.Ytopfaeefhicljaa.Q
