-- printed by a turned print (wip/mkprint.py of this repo) out of the translation; Lean checks it
import Derived.Test.YtopfaeefhicljaaSqz
import Derived.Test.YtopfaeefhicljaaR0
import Derived.Test.YtopfaeefhicljaaRcEnc0
namespace Go.Proofs.Ytopfaeefhicljaa.Q
open Go.RowKit Go.Proofs.YtopfaeefhicljaaW.PrintWords Go.Proofs.YtopfaeefhicljaaW.PrintLast Go.Proofs.YtopfaeefhicljaaW.PrintMore
attribute [local go_sem] max2_int min2_int max_two min_two max_three min_three max_four min_four   -- for this text's walks alone
set_option linter.unusedVariables false
set_option linter.unusedSimpArgs false

/-! ### dockmasterlaw11_head: function 24 -/
def dockmasterlaw11_head.f (k : Nat)  : Option (Bool) := (rec_Encode.f k 4 5 1 (⟨#[]⟩ : ByteArray) false (⟨#[]⟩ : ByteArray) 0 ([] : List Int) ([] : List ByteArray) ([] : List (S52)) ([] : List (S56)) ([] : List (S58))).bind fun zs => (if zs.2 = 0 then (some ((strOfNums zs.1).toList == ([4, 5, 1] : List UInt8))) else (some false))
theorem dockmasterlaw11_head.mono : ∀ k, LeO (dockmasterlaw11_head.f k ) (dockmasterlaw11_head.f (k + 1) ) := by
 intro  k
 unfold dockmasterlaw11_head.f
 repeat' first
   | (with_reducible exact rec_Encode.mono _ _ _ _ _ _ _ _ _ _ _ _ _)
   | (with_reducible exact LeO.refl _)
   | (with_reducible exact LeO.none _)
   | (with_reducible refine LeO.ite ?_ ?_)
   | (with_reducible refine LeO.bind ?_ (fun _ => ?_))
   | exact rec_Encode.mono _ _ _ _ _ _ _ _ _ _ _ _ _
   | exact LeO.none _
   | refine LeO.ite ?_ ?_
   | refine LeO.bind ?_ (fun _ => ?_)
set_option maxHeartbeats 8000000 in
set_option maxRecDepth 100000 in
theorem dockmasterlaw11_head.calls (k : Nat)  (r : Bool) (w : World) (h : dockmasterlaw11_head.f k  = some r) :
  Calls Try.prog 24 #[] w fun e w' => e = .returned (.bool r) ∧ Below w.heap.size w w' := by
 have hu44 := Try.underlying44
 have hu50 := Try.underlying50
 have HB := Aside0.mk (Below.refl w.heap.size w)
 have H : ((rec_Encode.f k 4 5 1 (⟨#[]⟩ : ByteArray) false (⟨#[]⟩ : ByteArray) 0 ([] : List Int) ([] : List ByteArray) ([] : List (S52)) ([] : List (S56)) ([] : List (S58))).bind fun zs => (if zs.2 = 0 then (some ((strOfNums zs.1).toList == ([4, 5, 1] : List UInt8))) else (some false))) = some r := h
 clear h
 replace H := Option.bind_eq_some_iff.mp H
 obtain ⟨⟨zx, zq⟩, A10, H⟩ := H
 replace H : (if zq = 0 then (some ((strOfNums zx).toList == ([4, 5, 1] : List UInt8))) else (some false)) = some r := H
 have A1 := Aside0.mk A10
 clear A10
 by_cases c2 : zq = 0
 ·rw [if_pos c2] at H
  have c2b0 : (zq == 0) = true := beq_iff_eq.mpr c2
  have c2b1 : (zq != 0) = false := bne_eq_false_iff_eq.mpr c2
  clear c2
  obtain rfl := Option.some.inj H
  go_enter Try.func24, Try.ntmps24
  go_wp2_with (first | ((with_reducible refine gate_callee (f := 26) rfl ?_); refine goesL_ (some 6) rfl rfl Try.func26 (by kernel_rfl) rfl #[.agg #[.int .i64 4, .int .u64 5, .int .i64 1, .string (⟨#[]⟩ : ByteArray), .bool false, .string (⟨#[]⟩ : ByteArray), .int .u64 0, .slice none 0 0, .slice none 0 0, .slice none 0 0, .slice none 0 0, .slice none 0 0]] rfl (by (try simp only [List.map_toArray, List.map_cons, List.map_nil]); first | done | rfl | (simp only [List.length_drop, List.length_take]; rfl)) ?_; (refine (rec_Encode.calls k 4 5 1 (⟨#[]⟩ : ByteArray) false (⟨#[]⟩ : ByteArray) 0 _ _ ([] : List Int) _ _ ([] : List ByteArray) _ _ ([] : List (S52)) _ _ ([] : List (S56)) _ _ ([] : List (S58)) zx zq _ ?side1 ?side2 ?side3 ?side4 ?side5 ?side6 ?side7 ?side8 ?side9 ?side10 A1.out).mono ?_); (case side1 => exact Kd.C_nil _ _); (case side2 => exact Nat.le_refl _); (case side3 => exact Kd.C_nil _ _); (case side4 => exact Nat.le_refl _); (case side5 => exact Kd.C_nil _ _); (case side6 => exact Nat.le_refl _); (case side7 => exact Kd.C_nil _ _); (case side8 => exact Nat.le_refl _); (case side9 => exact Kd.C_nil _ _); (case side10 => exact Nat.le_refl _); rintro e w3 ⟨v301, rfl, ho0, hb⟩; refine ⟨_, rfl, ?_⟩; have n0_ := Aside0.mk (Kd.R_lower ho0 (below_size (by repeat (first | (with_reducible first | exact HB.out | apply wA | apply wN | apply wD) | exact HB.out)))); have n1_ := Aside0.mk (below_step (by repeat (first | (with_reducible first | exact HB.out | apply wA | apply wN | apply wD) | exact HB.out)) hb); clear HB; have zy := n0_; have HB := n1_; clear n0_ n1_; (try clear hb); (try clear hb2); (try clear hk); (try clear hi); (try clear ho0); have hcv4 := own_string (P := Try.prog) Try.underlying28 Try.underlying5 Try.underlying9 (Kd.own_of_R zy.out)))
  go_ret
  exact ⟨by first | rfl | (simp [errW_none, errW_some] <;> rfl) | (simp [*, errW_none, errW_some] <;> rfl), by repeat (first | (with_reducible first | exact HB.out | apply wA | apply wN | apply wD) | exact HB.out)⟩
 ·rw [if_neg c2] at H
  have c2b0 : (zq == 0) = false := beq_eq_false_iff_ne.mpr c2
  have c2b1 : (zq != 0) = true := bne_iff_ne.mpr c2
  obtain rfl := Option.some.inj H
  go_enter Try.func24, Try.ntmps24
  go_wp2_with (first | ((with_reducible refine gate_callee (f := 26) rfl ?_); refine goesL_ (some 6) rfl rfl Try.func26 (by kernel_rfl) rfl #[.agg #[.int .i64 4, .int .u64 5, .int .i64 1, .string (⟨#[]⟩ : ByteArray), .bool false, .string (⟨#[]⟩ : ByteArray), .int .u64 0, .slice none 0 0, .slice none 0 0, .slice none 0 0, .slice none 0 0, .slice none 0 0]] rfl (by (try simp only [List.map_toArray, List.map_cons, List.map_nil]); first | done | rfl | (simp only [List.length_drop, List.length_take]; rfl)) ?_; (refine (rec_Encode.calls k 4 5 1 (⟨#[]⟩ : ByteArray) false (⟨#[]⟩ : ByteArray) 0 _ _ ([] : List Int) _ _ ([] : List ByteArray) _ _ ([] : List (S52)) _ _ ([] : List (S56)) _ _ ([] : List (S58)) zx zq _ ?side1 ?side2 ?side3 ?side4 ?side5 ?side6 ?side7 ?side8 ?side9 ?side10 A1.out).mono ?_); (case side1 => exact Kd.C_nil _ _); (case side2 => exact Nat.le_refl _); (case side3 => exact Kd.C_nil _ _); (case side4 => exact Nat.le_refl _); (case side5 => exact Kd.C_nil _ _); (case side6 => exact Nat.le_refl _); (case side7 => exact Kd.C_nil _ _); (case side8 => exact Nat.le_refl _); (case side9 => exact Kd.C_nil _ _); (case side10 => exact Nat.le_refl _); rintro e w5 ⟨v301, rfl, ho0, hb⟩; refine ⟨_, rfl, ?_⟩; have n0_ := Aside0.mk (Kd.R_lower ho0 (below_size (by repeat (first | (with_reducible first | exact HB.out | apply wA | apply wN | apply wD) | exact HB.out)))); have n1_ := Aside0.mk (below_step (by repeat (first | (with_reducible first | exact HB.out | apply wA | apply wN | apply wD) | exact HB.out)) hb); clear HB; have zy := n0_; have HB := n1_; clear n0_ n1_; (try clear hb); (try clear hb2); (try clear hk); (try clear hi); (try clear ho0)))
  go_ret
  exact ⟨by first | rfl | (simp [errW_none, errW_some] <;> rfl) | (simp [*, errW_none, errW_some] <;> rfl), by repeat (first | (with_reducible first | exact HB.out | apply wA | apply wN | apply wD) | exact HB.out)⟩

/-! ### dockmasterlaw11_tid: function 25 -/
def dockmasterlaw11_tid.f (zc : Int) (zb : Int) : Option (Bool) := if zc ≤ 1099511627776 then (if zb ≥ 0 then (some (decide (zb < 64))) else (some false)) else (some false)
set_option maxHeartbeats 8000000 in
set_option maxRecDepth 100000 in
theorem dockmasterlaw11_tid.calls (zc : Int) (zb : Int) (r : Bool) (w : World) (h : dockmasterlaw11_tid.f zc zb = some r) :
  Calls Try.prog 25 #[.agg #[.int .u64 zc, .int .i64 zb]] w fun e w' => e = .returned (.bool r) ∧ Below w.heap.size w w' := by
 have hu44 := Try.underlying44
 have HB := Aside0.mk (Below.refl w.heap.size w)
 have H : (if zc ≤ 1099511627776 then (if zb ≥ 0 then (some (decide (zb < 64))) else (some false)) else (some false)) = some r := h
 clear h
 by_cases c2 : zc ≤ 1099511627776
 ·rw [if_pos c2] at H
  have c2b0 : decide (zc ≤ 1099511627776) = true := decide_eq_true c2
  clear c2
  by_cases c3 : zb ≥ 0
  ·rw [if_pos c3] at H
   have c3b0 : decide (0 ≤ zb) = true := decide_eq_true c3
   clear c3
   obtain rfl := Option.some.inj H
   go_enter Try.func25, Try.ntmps25
   go_wp2_with (first | ((with_reducible refine gate_dst (N := 1) rfl ?_); refine box_event ?hg (N := 1) ?hd (cs := #[.int .u64 zc, .int .i64 zb]) (t := 44) ?hr ?_; (case hd => rfl); (case hg => rfl); (case hr => first | (go_simp; done) | (go_simp; rfl)); intro zi hg w4 hbox hb; have n0_ := Aside0.mk (below_step (by repeat (first | (with_reducible first | exact HB.out | apply wA | apply wN | apply wD) | exact HB.out)) hb); have n1_ := Aside0.mk (hbox); have n2_ := Aside0.mk ((by rw [hg]; exact (below_size (by repeat (first | (with_reducible first | exact HB.out | apply wA | apply wN | apply wD) | exact HB.out))) : w.heap.size ≤ zi)); have n3_ := Aside0.mk ((by rw [hg]; exact (below_size (by repeat (first | (with_reducible first | exact HB.out | apply wA | apply wN | apply wD) | exact HB.out))) : w.heap.size ≤ zi)); clear HB; have HB := n0_; have zj := n1_; have zz := n2_; have zt := n3_; clear n0_ n1_ n2_ n3_; clear hb hbox hg; have yv : w4.cell? ⟨zi, 0, none⟩ = some (.int .u64 zc) := (blk_cell zj.out 0).trans rfl; have yw : w4.cell? ⟨zi, 1, none⟩ = some (.int .i64 zb) := (blk_cell zj.out 1).trans rfl; have yx := blk_frozen zj.out 0; have yy := blk_frozen zj.out 1))
   go_ret
   exact ⟨by first | rfl | (simp [errW_none, errW_some] <;> rfl) | (simp [*, errW_none, errW_some] <;> rfl), by repeat (first | (with_reducible first | exact HB.out | apply wA | apply wN | apply wD | refine wS ?_ zt.out) | exact HB.out)⟩
  ·rw [if_neg c3] at H
   have c3b0 : decide (0 ≤ zb) = false := decide_eq_false c3
   clear c3
   obtain rfl := Option.some.inj H
   go_enter Try.func25, Try.ntmps25
   go_wp2_with (first | ((with_reducible refine gate_dst (N := 1) rfl ?_); refine box_event ?hg (N := 1) ?hd (cs := #[.int .u64 zc, .int .i64 zb]) (t := 44) ?hr ?_; (case hd => rfl); (case hg => rfl); (case hr => first | (go_simp; done) | (go_simp; rfl)); intro zi hg w6 hbox hb; have n0_ := Aside0.mk (below_step (by repeat (first | (with_reducible first | exact HB.out | apply wA | apply wN | apply wD) | exact HB.out)) hb); have n1_ := Aside0.mk (hbox); have n2_ := Aside0.mk ((by rw [hg]; exact (below_size (by repeat (first | (with_reducible first | exact HB.out | apply wA | apply wN | apply wD) | exact HB.out))) : w.heap.size ≤ zi)); have n3_ := Aside0.mk ((by rw [hg]; exact (below_size (by repeat (first | (with_reducible first | exact HB.out | apply wA | apply wN | apply wD) | exact HB.out))) : w.heap.size ≤ zi)); clear HB; have HB := n0_; have zj := n1_; have zz := n2_; have zt := n3_; clear n0_ n1_ n2_ n3_; clear hb hbox hg; have yz : w6.cell? ⟨zi, 0, none⟩ = some (.int .u64 zc) := (blk_cell zj.out 0).trans rfl; have ja : w6.cell? ⟨zi, 1, none⟩ = some (.int .i64 zb) := (blk_cell zj.out 1).trans rfl; have jb := blk_frozen zj.out 0; have jc := blk_frozen zj.out 1))
   go_ret
   exact ⟨by first | rfl | (simp [errW_none, errW_some] <;> rfl) | (simp [*, errW_none, errW_some] <;> rfl), by repeat (first | (with_reducible first | exact HB.out | apply wA | apply wN | apply wD | refine wS ?_ zt.out) | exact HB.out)⟩
 ·rw [if_neg c2] at H
  have c2b0 : decide (zc ≤ 1099511627776) = false := decide_eq_false c2
  clear c2
  obtain rfl := Option.some.inj H
  go_enter Try.func25, Try.ntmps25
  go_wp2_with (first | ((with_reducible refine gate_dst (N := 1) rfl ?_); refine box_event ?hg (N := 1) ?hd (cs := #[.int .u64 zc, .int .i64 zb]) (t := 44) ?hr ?_; (case hd => rfl); (case hg => rfl); (case hr => first | (go_simp; done) | (go_simp; rfl)); intro zi hg w8 hbox hb; have n0_ := Aside0.mk (below_step (by repeat (first | (with_reducible first | exact HB.out | apply wA | apply wN | apply wD) | exact HB.out)) hb); have n1_ := Aside0.mk (hbox); have n2_ := Aside0.mk ((by rw [hg]; exact (below_size (by repeat (first | (with_reducible first | exact HB.out | apply wA | apply wN | apply wD) | exact HB.out))) : w.heap.size ≤ zi)); have n3_ := Aside0.mk ((by rw [hg]; exact (below_size (by repeat (first | (with_reducible first | exact HB.out | apply wA | apply wN | apply wD) | exact HB.out))) : w.heap.size ≤ zi)); clear HB; have HB := n0_; have zj := n1_; have zz := n2_; have zt := n3_; clear n0_ n1_ n2_ n3_; clear hb hbox hg; have yb : w8.cell? ⟨zi, 0, none⟩ = some (.int .u64 zc) := (blk_cell zj.out 0).trans rfl; have yc : w8.cell? ⟨zi, 1, none⟩ = some (.int .i64 zb) := (blk_cell zj.out 1).trans rfl; have yd := blk_frozen zj.out 0; have ye := blk_frozen zj.out 1))
  go_ret
  exact ⟨by first | rfl | (simp [errW_none, errW_some] <;> rfl) | (simp [*, errW_none, errW_some] <;> rfl), by repeat (first | (with_reducible first | exact HB.out | apply wA | apply wN | apply wD | refine wS ?_ zt.out) | exact HB.out)⟩

/-! ### rec_Open_Clone: function 28 -/
def rec_Open_Clone.f (zc : Int) (zb : Int) (zg : Int) (zh : Int) (zk : Int) (zm : Bool) (zl : List ByteArray) : Option (Int × Int × Int × Int × Int × Bool × List ByteArray) := (slices_Clone_string_string.f zl).bind fun zp => (some (zc, zb, zg, zh, zk, zm, zp))
set_option maxHeartbeats 8000000 in
set_option maxRecDepth 100000 in
theorem rec_Open_Clone.calls (zc : Int) (zb : Int) (zg : Int) (zh : Int) (zk : Int) (zm : Bool) (zn : Option Addr) (zo : Nat) (zl : List ByteArray) (r1 : Int) (r2 : Int) (r3 : Int) (r4 : Int) (r5 : Int) (r6 : Bool) (r7 : List ByteArray) (w : World) (hr0_6 : Kd.C Kd.string w zn zl.length zl) (hc0_6 : zl.length ≤ zo) (h : rec_Open_Clone.f zc zb zg zh zk zm zl = some (r1, r2, r3, r4, r5, r6, r7)) :
  Calls Try.prog 28 #[.agg #[.int .u64 zc, .int .i64 zb, .int .u64 zg, .int .u64 zh, .int .i64 zk, .bool zm, .slice zn zl.length zo]] w fun e w' => ∃ v6_ : Value, e = .returned (.agg #[.int .u64 r1, .int .i64 r2, .int .u64 r3, .int .u64 r4, .int .i64 r5, .bool r6, v6_]) ∧ Kd.R Kd.string 9 w' w.heap.size (fun _ => True) v6_ r7 ∧ Below w.heap.size w w' := by
 have hu56 := Try.underlying56
 have yf := Aside0.mk hr0_6
 have yg := Aside0.mk hc0_6
 clear hr0_6 hc0_6
 have HB := Aside0.mk (Below.refl w.heap.size w)
 have H : ((slices_Clone_string_string.f zl).bind fun zp => (some (zc, zb, zg, zh, zk, zm, zp))) = some (r1, r2, r3, r4, r5, r6, r7) := h
 clear h
 replace H := Option.bind_eq_some_iff.mp H
 obtain ⟨zp, A20, H⟩ := H
 replace H : (some (zc, zb, zg, zh, zk, zm, zp)) = some (r1, r2, r3, r4, r5, r6, r7) := H
 have A2 := Aside0.mk A20
 clear A20
 simp only [Option.some.injEq, Prod.mk.injEq] at H
 obtain ⟨rfl, rfl, rfl, rfl, rfl, rfl, rfl⟩ := H
 go_enter Try.func28, Try.ntmps28
 go_wp2_with (first | ((with_reducible refine gate_dst (N := 1) rfl ?_); refine box_event ?hg (N := 1) ?hd (cs := #[.int .u64 zc, .int .i64 zb, .int .u64 zg, .int .u64 zh, .int .i64 zk, .bool zm, .slice zn zl.length zo]) (t := 56) ?hr ?_; (case hd => rfl); (case hg => rfl); (case hr => first | (go_simp; done) | (go_simp; rfl)); intro zd hg w3 hbox hb; have n0_ := Aside0.mk (below_step (by repeat (first | (with_reducible first | exact HB.out | apply wA | apply wN | apply wD) | exact HB.out)) hb); have n1_ := Aside0.mk (hbox); have n2_ := Aside0.mk ((by rw [hg]; exact (below_size (by repeat (first | (with_reducible first | exact HB.out | apply wA | apply wN | apply wD) | exact HB.out))) : w.heap.size ≤ zd)); have n3_ := Aside0.mk ((by rw [hg]; exact (below_size (by repeat (first | (with_reducible first | exact HB.out | apply wA | apply wN | apply wD) | exact HB.out))) : w.heap.size ≤ zd)); clear HB; have HB := n0_; have za := n1_; have zab := n2_; have zr := n3_; clear n0_ n1_ n2_ n3_; clear hb hbox hg) | ((with_reducible refine gate_dst (N := 2) rfl ?_); refine box_event ?hg (N := 2) ?hd (cs := #[.int .u64 0, .int .i64 0, .int .u64 0, .int .u64 0, .int .i64 0, .bool false, .slice none 0 0]) (t := 56) ?hr ?_; (case hd => rfl); (case hg => rfl); (case hr => first | (go_simp; done) | (go_simp; rfl)); intro ze hg w4 hbox hb; have n0_ := Aside0.mk (blk_below (g := zd) (o := .cells #[.int .u64 zc, .int .i64 zb, .int .u64 zg, .int .u64 zh, .int .i64 zk, .bool zm, .slice zn zl.length zo] 56 (0, 0)) (by (with_reducible repeat (first | refine bN ?_ _ | refine bD ?_ | refine bA ?_ _)); exact za.out) hb); have n1_ := Aside0.mk (below_step (by repeat (first | (with_reducible first | exact HB.out | apply wA | apply wN | apply wD | refine wS ?_ zr.out) | exact HB.out)) hb); have n2_ := Aside0.mk (hbox); have n3_ := Aside0.mk ((by rw [hg]; exact (below_size (by repeat (first | (with_reducible first | exact HB.out | apply wA | apply wN | apply wD | refine wS ?_ zr.out) | exact HB.out))) : w.heap.size ≤ ze)); have n4_ := Aside0.mk ((by rw [hg]; exact (below_size (by repeat (first | (with_reducible first | exact HB.out | apply wA | apply wN | apply wD | refine wS ?_ zr.out) | exact HB.out))) : w.heap.size ≤ ze)); have n5_ := Aside0.mk ((by rw [hg]; exact Nat.ne_of_lt (blk_lt (g := zd) (o := .cells #[.int .u64 zc, .int .i64 zb, .int .u64 zg, .int .u64 zh, .int .i64 zk, .bool zm, .slice zn zl.length zo] 56 (0, 0)) (by (with_reducible repeat (first | refine bN ?_ _ | refine bD ?_ | refine bA ?_ _)); exact za.out)) : zd ≠ ze)); have n6_ := Aside0.mk ((by rw [hg]; exact Nat.ne_of_gt (blk_lt (g := zd) (o := .cells #[.int .u64 zc, .int .i64 zb, .int .u64 zg, .int .u64 zh, .int .i64 zk, .bool zm, .slice zn zl.length zo] 56 (0, 0)) (by (with_reducible repeat (first | refine bN ?_ _ | refine bD ?_ | refine bA ?_ _)); exact za.out)) : ze ≠ zd)); clear za; clear HB; have za := n0_; have HB := n1_; have zf := n2_; have zac := n3_; have zv := n4_; have zw := n5_; have zu := n6_; clear n0_ n1_ n2_ n3_ n4_ n5_ n6_; clear hb hbox hg; have hnb5 := zw.out; have hnc5 := zu.out; have jd : w4.cell? ⟨zd, 0, none⟩ = some (.int .u64 zc) := (blk_cell za.out 0).trans rfl; have je : w4.cell? ⟨zd, 1, none⟩ = some (.int .i64 zb) := (blk_cell za.out 1).trans rfl; have jf : w4.cell? ⟨zd, 2, none⟩ = some (.int .u64 zg) := (blk_cell za.out 2).trans rfl; have jg : w4.cell? ⟨zd, 3, none⟩ = some (.int .u64 zh) := (blk_cell za.out 3).trans rfl; have jh : w4.cell? ⟨zd, 4, none⟩ = some (.int .i64 zk) := (blk_cell za.out 4).trans rfl; have ji : w4.cell? ⟨zd, 5, none⟩ = some (.bool zm) := (blk_cell za.out 5).trans rfl; have jj : w4.cell? ⟨zd, 6, none⟩ = some (.slice zn zl.length zo) := (blk_cell za.out 6).trans rfl; have jk := blk_frozen za.out 0; have jl := blk_frozen za.out 1; have jm := blk_frozen za.out 2; have jn := blk_frozen za.out 3; have jo := blk_frozen za.out 4; have jp := blk_frozen za.out 5; have jq := blk_frozen za.out 6) | ((with_reducible refine gate_callee (f := 43) rfl ?_); refine goesL_ (some 5) rfl rfl Try.func43 (by kernel_rfl) rfl #[.slice zn zl.length zo] rfl (by (try simp only [List.map_toArray, List.map_cons, List.map_nil]); first | done | rfl | (simp only [List.length_drop, List.length_take]; rfl)) ?_; (with_reducible refine (slices_Clone_string_string.calls _ _ zl zp _ ?side1 ?side2 A2.out).mono ?_); (case side1 => repeat (first | exact (Kd.C_below yf.out HB.out) | (with_reducible refine Kd.C_alloc ?_ _) | (with_reducible refine Kd.C_drewN ?_ _) | (with_reducible refine Kd.C_drew ?_))); (case side2 => exact yg.out); rintro e w7 ⟨v308, rfl, ho0, hb⟩; refine ⟨_, rfl, ?_⟩; have n0_ := Aside0.mk (Kd.R_lower ho0 (below_size (by repeat (first | (with_reducible first | exact HB.out | apply wA | apply wN | apply wD | refine wS ?_ zr.out | refine wS ?_ zv.out) | exact HB.out)))); have n1_ := Aside0.mk (blk_below (g := zd) (o := .cells #[.int .u64 zc, .int .i64 zb, .int .u64 zg, .int .u64 zh, .int .i64 zk, .bool zm, .slice zn zl.length zo] 56 (0, 0)) (by (with_reducible repeat (first | refine bN ?_ _ | refine bD ?_ | refine bA ?_ _)); exact za.out) hb); have n2_ := Aside0.mk (blk_below (g := ze) (o := .cells #[.int .u64 0, .int .i64 0, .int .u64 0, .int .u64 0, .int .i64 0, .bool false, .slice none 0 0] 56 (0, 0)) (by (with_reducible repeat (first | refine bN ?_ _ | refine bD ?_ | refine bA ?_ _)); exact zf.out) hb); have n3_ := Aside0.mk (below_step (by repeat (first | (with_reducible first | exact HB.out | apply wA | apply wN | apply wD | refine wS ?_ zr.out | refine wS ?_ zv.out) | exact HB.out)) hb); clear za; clear zf; clear HB; have ya := n0_; have za := n1_; have zf := n2_; have HB := n3_; clear n0_ n1_ n2_ n3_; (try clear hb); (try clear hb2); (try clear hk); (try clear hi); (try clear ho0); obtain ⟨Ao8, co8, eo8⟩ := Kd.R_slice ya.out; subst eo8; have yb : w7.cell? ⟨zd, 0, none⟩ = some (.int .u64 zc) := (blk_cell za.out 0).trans rfl; have yc : w7.cell? ⟨zd, 1, none⟩ = some (.int .i64 zb) := (blk_cell za.out 1).trans rfl; have jr : w7.cell? ⟨zd, 2, none⟩ = some (.int .u64 zg) := (blk_cell za.out 2).trans rfl; have js : w7.cell? ⟨zd, 3, none⟩ = some (.int .u64 zh) := (blk_cell za.out 3).trans rfl; have jt : w7.cell? ⟨zd, 4, none⟩ = some (.int .i64 zk) := (blk_cell za.out 4).trans rfl; have ju : w7.cell? ⟨zd, 5, none⟩ = some (.bool zm) := (blk_cell za.out 5).trans rfl; have jv : w7.cell? ⟨zd, 6, none⟩ = some (.slice zn zl.length zo) := (blk_cell za.out 6).trans rfl; have yd := blk_frozen za.out 0; have ye := blk_frozen za.out 1; have jw := blk_frozen za.out 2; have jx := blk_frozen za.out 3; have jy := blk_frozen za.out 4; have jz := blk_frozen za.out 5; have zaa := blk_frozen za.out 6; have yh : w7.cell? ⟨ze, 0, none⟩ = some (.int .u64 0) := (blk_cell zf.out 0).trans rfl; have yi : w7.cell? ⟨ze, 1, none⟩ = some (.int .i64 0) := (blk_cell zf.out 1).trans rfl; have yj : w7.cell? ⟨ze, 2, none⟩ = some (.int .u64 0) := (blk_cell zf.out 2).trans rfl; have yk : w7.cell? ⟨ze, 3, none⟩ = some (.int .u64 0) := (blk_cell zf.out 3).trans rfl; have yl : w7.cell? ⟨ze, 4, none⟩ = some (.int .i64 0) := (blk_cell zf.out 4).trans rfl; have ym : w7.cell? ⟨ze, 5, none⟩ = some (.bool false) := (blk_cell zf.out 5).trans rfl; have yn : w7.cell? ⟨ze, 6, none⟩ = some (.slice none 0 0) := (blk_cell zf.out 6).trans rfl; have yo := blk_frozen zf.out 0; have yp := blk_frozen zf.out 1; have yq := blk_frozen zf.out 2; have yr := blk_frozen zf.out 3; have ys := blk_frozen zf.out 4; have yt := blk_frozen zf.out 5; have yu := blk_frozen zf.out 6))
 refine bodyPost_ret (results_cell_row rfl _ _ ze 56 #[.int .u64 zc, .int .i64 zb, .int .u64 zg, .int .u64 zh, .int .i64 zk, .bool zm, .slice Ao8 zp.length co8] (0, 0) _ rfl (by (with_reducible repeat (first | refine bN ?_ _ | refine bD ?_ | refine bA ?_ _)); refine blk_put (cs := #[.int .u64 zc, .int .i64 zb, .int .u64 zg, .int .u64 zh, .int .i64 zk, .bool zm, .slice none 0 0]) ?_ 6 _ rfl; (with_reducible repeat (first | refine bN ?_ _ | refine bD ?_ | refine bA ?_ _)); refine blk_put (cs := #[.int .u64 zc, .int .i64 zb, .int .u64 zg, .int .u64 zh, .int .i64 zk, .bool false, .slice none 0 0]) ?_ 5 _ rfl; (with_reducible repeat (first | refine bN ?_ _ | refine bD ?_ | refine bA ?_ _)); refine blk_put (cs := #[.int .u64 zc, .int .i64 zb, .int .u64 zg, .int .u64 zh, .int .i64 0, .bool false, .slice none 0 0]) ?_ 4 _ rfl; (with_reducible repeat (first | refine bN ?_ _ | refine bD ?_ | refine bA ?_ _)); refine blk_put (cs := #[.int .u64 zc, .int .i64 zb, .int .u64 zg, .int .u64 0, .int .i64 0, .bool false, .slice none 0 0]) ?_ 3 _ rfl; (with_reducible repeat (first | refine bN ?_ _ | refine bD ?_ | refine bA ?_ _)); refine blk_put (cs := #[.int .u64 zc, .int .i64 zb, .int .u64 0, .int .u64 0, .int .i64 0, .bool false, .slice none 0 0]) ?_ 2 _ rfl; (with_reducible repeat (first | refine bN ?_ _ | refine bD ?_ | refine bA ?_ _)); refine blk_put (cs := #[.int .u64 zc, .int .i64 0, .int .u64 0, .int .u64 0, .int .i64 0, .bool false, .slice none 0 0]) ?_ 1 _ rfl; (with_reducible repeat (first | refine bN ?_ _ | refine bD ?_ | refine bA ?_ _)); refine blk_put (cs := #[.int .u64 0, .int .i64 0, .int .u64 0, .int .u64 0, .int .i64 0, .bool false, .slice none 0 0]) ?_ 0 _ rfl; (with_reducible repeat (first | refine bN ?_ _ | refine bD ?_ | refine bA ?_ _)); refine blk_far ?_ zu.out _; (with_reducible repeat (first | refine bN ?_ _ | refine bD ?_ | refine bA ?_ _)); exact zf.out) Try.underlying56 rfl (by kernel_rfl)) rfl ?_
 exact ⟨_, by first | rfl | (simp [errW_none, errW_some] <;> rfl) | (simp [*, errW_none, errW_some] <;> rfl), by (with_reducible repeat (first | apply Kd.R_alloc | apply Kd.R_drewN | apply Kd.R_drew)); exact Kd.R_mono (Kd.R_far (p := ⟨ze, 6, none⟩) (Kd.R_far (p := ⟨ze, 5, none⟩) (Kd.R_far (p := ⟨ze, 4, none⟩) (Kd.R_far (p := ⟨ze, 3, none⟩) (Kd.R_far (p := ⟨ze, 2, none⟩) (Kd.R_far (p := ⟨ze, 1, none⟩) (Kd.R_far (p := ⟨ze, 0, none⟩) (Kd.R_far (p := ⟨zd, 6, none⟩) (Kd.R_types (Kd.R_types ya.out za.out (by decide)) zf.out (by decide)) (fun _ hk => hk.1.2) (.slice Ao8 zp.length co8)) (fun _ hk => hk.2) (.int .u64 zc)) (fun _ hk => hk.2) (.int .i64 zb)) (fun _ hk => hk.2) (.int .u64 zg)) (fun _ hk => hk.2) (.int .u64 zh)) (fun _ hk => hk.2) (.int .i64 zk)) (fun _ hk => hk.2) (.bool zm)) (fun _ hk => hk.2) (.slice Ao8 zp.length co8)) (fun _ hk => trivial), by repeat (first | (with_reducible first | exact HB.out | apply wA | apply wN | apply wD | refine wS ?_ zr.out | refine wS ?_ zv.out) | exact HB.out)⟩

end Go.Proofs.Ytopfaeefhicljaa.Q
