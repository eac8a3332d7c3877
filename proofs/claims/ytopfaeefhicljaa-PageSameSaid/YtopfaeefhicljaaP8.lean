-- printed by a turned print (wip/mkprint.py of this repo) out of the translation; Lean checks it
import Derived.Test.YtopfaeefhicljaaP0
namespace Go.Proofs.Ytopfaeefhicljaa.Q
open Go.RowKit Go.Proofs.YtopfaeefhicljaaW.PrintWords Go.Proofs.YtopfaeefhicljaaW.PrintLast Go.Proofs.YtopfaeefhicljaaW.PrintMore
attribute [local go_sem] max2_int min2_int max_two min_two max_three min_three max_four min_four   -- for this text's walks alone
set_option linter.unusedVariables false
set_option linter.unusedSimpArgs false

/-! ### dockmasterlaw06_small: function 18 -/
def dockmasterlaw06_small.f (a0_0 : Int) (l0_1 : List ByteArray) (l0_2 : List ByteArray) (l0_3 : List Int) (a0_4 : Int) (a0_5 : Int) (a0_6 : Int) (a0_7 : Int) : Option (Bool) := if (l0_1.length : Int) ≤ 20 then (if (l0_2.length : Int) ≤ 20 then (some (decide ((l0_3.length : Int) ≤ 20))) else (some false)) else (some false)
set_option maxHeartbeats 8000000 in
set_option maxRecDepth 100000 in
theorem dockmasterlaw06_small.calls (a0_0 : Int) (A0_1 : Option Addr) (c0_1 : Nat) (l0_1 : List ByteArray) (A0_2 : Option Addr) (c0_2 : Nat) (l0_2 : List ByteArray) (A0_3 : Option Addr) (c0_3 : Nat) (l0_3 : List Int) (a0_4 : Int) (a0_5 : Int) (a0_6 : Int) (a0_7 : Int) (r : Bool) (w : World) (hr0_1 : Kd.C Kd.string w A0_1 l0_1.length l0_1) (hc0_1 : l0_1.length ≤ c0_1) (hr0_2 : Kd.C Kd.string w A0_2 l0_2.length l0_2) (hc0_2 : l0_2.length ≤ c0_2) (hr0_3 : Kd.C (Kd.int .i64) w A0_3 l0_3.length l0_3) (hc0_3 : l0_3.length ≤ c0_3) (h : dockmasterlaw06_small.f a0_0 l0_1 l0_2 l0_3 a0_4 a0_5 a0_6 a0_7 = some r) :
    Calls Try.prog 18 #[.agg #[.int .i64 a0_0, .slice A0_1 l0_1.length c0_1, .slice A0_2 l0_2.length c0_2, .slice A0_3 l0_3.length c0_3, .int .i64 a0_4, .int .i64 a0_5, .int .i64 a0_6, .int .i64 a0_7]] w fun e w' => e = .returned (.bool r) ∧ Below w.heap.size w w' := by
  have hu27 := Try.underlying27
  have HR0_1 := Aside0.mk hr0_1
  have HC0_1 := Aside0.mk hc0_1
  clear hr0_1 hc0_1
  have HR0_2 := Aside0.mk hr0_2
  have HC0_2 := Aside0.mk hc0_2
  clear hr0_2 hc0_2
  have HR0_3 := Aside0.mk hr0_3
  have HC0_3 := Aside0.mk hc0_3
  clear hr0_3 hc0_3
  have HB := Aside0.mk (Below.refl w.heap.size w)
  have H : (if (l0_1.length : Int) ≤ 20 then (if (l0_2.length : Int) ≤ 20 then (some (decide ((l0_3.length : Int) ≤ 20))) else (some false)) else (some false)) = some r := h
  clear h
  by_cases c2 : (l0_1.length : Int) ≤ 20
  · rw [if_pos c2] at H
    have c2b0 : decide ((l0_1.length : Int) ≤ 20) = true := decide_eq_true c2
    have c2b1 : decide (l0_1.length ≤ 20) = true := decide_eq_true (by omega)
    clear c2
    by_cases c3 : (l0_2.length : Int) ≤ 20
    · rw [if_pos c3] at H
      have c3b0 : decide ((l0_2.length : Int) ≤ 20) = true := decide_eq_true c3
      have c3b1 : decide (l0_2.length ≤ 20) = true := decide_eq_true (by omega)
      clear c3
      obtain rfl := Option.some.inj H
      go_enter Try.func18, Try.ntmps18
      go_wp2_with (first | ((with_reducible refine gate_dst (N := 1) rfl ?_); (try (refine gate_guard (by rfl) ?_; dsimp only)); refine box_event ?hg (N := 1) ?hd (cs := #[.int .i64 a0_0, .slice A0_1 l0_1.length c0_1, .slice A0_2 l0_2.length c0_2, .slice A0_3 l0_3.length c0_3, .int .i64 a0_4, .int .i64 a0_5, .int .i64 a0_6, .int .i64 a0_7]) (t := 27) ?hr ?_; (case hd => rfl); (case hg => rfl); (case hr => first | (go_simp; done) | (go_simp; rfl)); intro gb263 hg w4 hbox hb; have n0_ := Aside0.mk (below_step (by repeat (first | (with_reducible first | exact HB.out | apply below_alloc | apply pw_below_drewN | apply below_drew1) | exact HB.out)) hb); have n1_ := Aside0.mk (hbox); have n2_ := Aside0.mk ((by rw [hg]; exact (below_size (by repeat (first | (with_reducible first | exact HB.out | apply below_alloc | apply pw_below_drewN | apply below_drew1) | exact HB.out))) : w.heap.size ≤ gb263)); have n3_ := Aside0.mk ((by rw [hg]; exact (below_size (by repeat (first | (with_reducible first | exact HB.out | apply below_alloc | apply pw_below_drewN | apply below_drew1) | exact HB.out))) : w.heap.size ≤ gb263)); clear HB; have HB := n0_; have BK263 := n1_; have GW263 := n2_; have GE263 := n3_; clear n0_ n1_ n2_ n3_; clear hb hbox hg; have hcz5_0 : w4.cell? ⟨gb263, 0, none⟩ = some (.int .i64 a0_0) := (blk_cell BK263.out 0).trans rfl; have hcz5_1 : w4.cell? ⟨gb263, 1, none⟩ = some (.slice A0_1 l0_1.length c0_1) := (blk_cell BK263.out 1).trans rfl; have hcz5_2 : w4.cell? ⟨gb263, 2, none⟩ = some (.slice A0_2 l0_2.length c0_2) := (blk_cell BK263.out 2).trans rfl; have hcz5_3 : w4.cell? ⟨gb263, 3, none⟩ = some (.slice A0_3 l0_3.length c0_3) := (blk_cell BK263.out 3).trans rfl; have hcz5_4 : w4.cell? ⟨gb263, 4, none⟩ = some (.int .i64 a0_4) := (blk_cell BK263.out 4).trans rfl; have hcz5_5 : w4.cell? ⟨gb263, 5, none⟩ = some (.int .i64 a0_5) := (blk_cell BK263.out 5).trans rfl; have hcz5_6 : w4.cell? ⟨gb263, 6, none⟩ = some (.int .i64 a0_6) := (blk_cell BK263.out 6).trans rfl; have hcz5_7 : w4.cell? ⟨gb263, 7, none⟩ = some (.int .i64 a0_7) := (blk_cell BK263.out 7).trans rfl; have hfz5_0 := blk_frozen BK263.out 0; have hfz5_1 := blk_frozen BK263.out 1; have hfz5_2 := blk_frozen BK263.out 2; have hfz5_3 := blk_frozen BK263.out 3; have hfz5_4 := blk_frozen BK263.out 4; have hfz5_5 := blk_frozen BK263.out 5; have hfz5_6 := blk_frozen BK263.out 6; have hfz5_7 := blk_frozen BK263.out 7))
      go_ret
      exact ⟨by first | rfl | (simp [errW_none, errW_some] <;> rfl) | (simp [*, errW_none, errW_some] <;> rfl), by repeat (first | (with_reducible first | exact HB.out | apply below_alloc | apply pw_below_drewN | apply below_drew1 | refine below_set ?_ GE263.out) | exact HB.out)⟩
    · rw [if_neg c3] at H
      have c3b0 : decide ((l0_2.length : Int) ≤ 20) = false := decide_eq_false c3
      have c3b1 : decide (l0_2.length ≤ 20) = false := decide_eq_false (by omega)
      clear c3
      obtain rfl := Option.some.inj H
      go_enter Try.func18, Try.ntmps18
      go_wp2_with (first | ((with_reducible refine gate_dst (N := 1) rfl ?_); (try (refine gate_guard (by rfl) ?_; dsimp only)); refine box_event ?hg (N := 1) ?hd (cs := #[.int .i64 a0_0, .slice A0_1 l0_1.length c0_1, .slice A0_2 l0_2.length c0_2, .slice A0_3 l0_3.length c0_3, .int .i64 a0_4, .int .i64 a0_5, .int .i64 a0_6, .int .i64 a0_7]) (t := 27) ?hr ?_; (case hd => rfl); (case hg => rfl); (case hr => first | (go_simp; done) | (go_simp; rfl)); intro gb263 hg w6 hbox hb; have n0_ := Aside0.mk (below_step (by repeat (first | (with_reducible first | exact HB.out | apply below_alloc | apply pw_below_drewN | apply below_drew1) | exact HB.out)) hb); have n1_ := Aside0.mk (hbox); have n2_ := Aside0.mk ((by rw [hg]; exact (below_size (by repeat (first | (with_reducible first | exact HB.out | apply below_alloc | apply pw_below_drewN | apply below_drew1) | exact HB.out))) : w.heap.size ≤ gb263)); have n3_ := Aside0.mk ((by rw [hg]; exact (below_size (by repeat (first | (with_reducible first | exact HB.out | apply below_alloc | apply pw_below_drewN | apply below_drew1) | exact HB.out))) : w.heap.size ≤ gb263)); clear HB; have HB := n0_; have BK263 := n1_; have GW263 := n2_; have GE263 := n3_; clear n0_ n1_ n2_ n3_; clear hb hbox hg; have hcz7_0 : w6.cell? ⟨gb263, 0, none⟩ = some (.int .i64 a0_0) := (blk_cell BK263.out 0).trans rfl; have hcz7_1 : w6.cell? ⟨gb263, 1, none⟩ = some (.slice A0_1 l0_1.length c0_1) := (blk_cell BK263.out 1).trans rfl; have hcz7_2 : w6.cell? ⟨gb263, 2, none⟩ = some (.slice A0_2 l0_2.length c0_2) := (blk_cell BK263.out 2).trans rfl; have hcz7_3 : w6.cell? ⟨gb263, 3, none⟩ = some (.slice A0_3 l0_3.length c0_3) := (blk_cell BK263.out 3).trans rfl; have hcz7_4 : w6.cell? ⟨gb263, 4, none⟩ = some (.int .i64 a0_4) := (blk_cell BK263.out 4).trans rfl; have hcz7_5 : w6.cell? ⟨gb263, 5, none⟩ = some (.int .i64 a0_5) := (blk_cell BK263.out 5).trans rfl; have hcz7_6 : w6.cell? ⟨gb263, 6, none⟩ = some (.int .i64 a0_6) := (blk_cell BK263.out 6).trans rfl; have hcz7_7 : w6.cell? ⟨gb263, 7, none⟩ = some (.int .i64 a0_7) := (blk_cell BK263.out 7).trans rfl; have hfz7_0 := blk_frozen BK263.out 0; have hfz7_1 := blk_frozen BK263.out 1; have hfz7_2 := blk_frozen BK263.out 2; have hfz7_3 := blk_frozen BK263.out 3; have hfz7_4 := blk_frozen BK263.out 4; have hfz7_5 := blk_frozen BK263.out 5; have hfz7_6 := blk_frozen BK263.out 6; have hfz7_7 := blk_frozen BK263.out 7))
      go_ret
      exact ⟨by first | rfl | (simp [errW_none, errW_some] <;> rfl) | (simp [*, errW_none, errW_some] <;> rfl), by repeat (first | (with_reducible first | exact HB.out | apply below_alloc | apply pw_below_drewN | apply below_drew1 | refine below_set ?_ GE263.out) | exact HB.out)⟩
  · rw [if_neg c2] at H
    have c2b0 : decide ((l0_1.length : Int) ≤ 20) = false := decide_eq_false c2
    have c2b1 : decide (l0_1.length ≤ 20) = false := decide_eq_false (by omega)
    clear c2
    obtain rfl := Option.some.inj H
    go_enter Try.func18, Try.ntmps18
    go_wp2_with (first | ((with_reducible refine gate_dst (N := 1) rfl ?_); (try (refine gate_guard (by rfl) ?_; dsimp only)); refine box_event ?hg (N := 1) ?hd (cs := #[.int .i64 a0_0, .slice A0_1 l0_1.length c0_1, .slice A0_2 l0_2.length c0_2, .slice A0_3 l0_3.length c0_3, .int .i64 a0_4, .int .i64 a0_5, .int .i64 a0_6, .int .i64 a0_7]) (t := 27) ?hr ?_; (case hd => rfl); (case hg => rfl); (case hr => first | (go_simp; done) | (go_simp; rfl)); intro gb263 hg w8 hbox hb; have n0_ := Aside0.mk (below_step (by repeat (first | (with_reducible first | exact HB.out | apply below_alloc | apply pw_below_drewN | apply below_drew1) | exact HB.out)) hb); have n1_ := Aside0.mk (hbox); have n2_ := Aside0.mk ((by rw [hg]; exact (below_size (by repeat (first | (with_reducible first | exact HB.out | apply below_alloc | apply pw_below_drewN | apply below_drew1) | exact HB.out))) : w.heap.size ≤ gb263)); have n3_ := Aside0.mk ((by rw [hg]; exact (below_size (by repeat (first | (with_reducible first | exact HB.out | apply below_alloc | apply pw_below_drewN | apply below_drew1) | exact HB.out))) : w.heap.size ≤ gb263)); clear HB; have HB := n0_; have BK263 := n1_; have GW263 := n2_; have GE263 := n3_; clear n0_ n1_ n2_ n3_; clear hb hbox hg; have hcz9_0 : w8.cell? ⟨gb263, 0, none⟩ = some (.int .i64 a0_0) := (blk_cell BK263.out 0).trans rfl; have hcz9_1 : w8.cell? ⟨gb263, 1, none⟩ = some (.slice A0_1 l0_1.length c0_1) := (blk_cell BK263.out 1).trans rfl; have hcz9_2 : w8.cell? ⟨gb263, 2, none⟩ = some (.slice A0_2 l0_2.length c0_2) := (blk_cell BK263.out 2).trans rfl; have hcz9_3 : w8.cell? ⟨gb263, 3, none⟩ = some (.slice A0_3 l0_3.length c0_3) := (blk_cell BK263.out 3).trans rfl; have hcz9_4 : w8.cell? ⟨gb263, 4, none⟩ = some (.int .i64 a0_4) := (blk_cell BK263.out 4).trans rfl; have hcz9_5 : w8.cell? ⟨gb263, 5, none⟩ = some (.int .i64 a0_5) := (blk_cell BK263.out 5).trans rfl; have hcz9_6 : w8.cell? ⟨gb263, 6, none⟩ = some (.int .i64 a0_6) := (blk_cell BK263.out 6).trans rfl; have hcz9_7 : w8.cell? ⟨gb263, 7, none⟩ = some (.int .i64 a0_7) := (blk_cell BK263.out 7).trans rfl; have hfz9_0 := blk_frozen BK263.out 0; have hfz9_1 := blk_frozen BK263.out 1; have hfz9_2 := blk_frozen BK263.out 2; have hfz9_3 := blk_frozen BK263.out 3; have hfz9_4 := blk_frozen BK263.out 4; have hfz9_5 := blk_frozen BK263.out 5; have hfz9_6 := blk_frozen BK263.out 6; have hfz9_7 := blk_frozen BK263.out 7))
    go_ret
    exact ⟨by first | rfl | (simp [errW_none, errW_some] <;> rfl) | (simp [*, errW_none, errW_some] <;> rfl), by repeat (first | (with_reducible first | exact HB.out | apply below_alloc | apply pw_below_drewN | apply below_drew1 | refine below_set ?_ GE263.out) | exact HB.out)⟩

end Go.Proofs.Ytopfaeefhicljaa.Q
