-- printed by a turned print (wip/mkprint.py of this repo) out of the translation; Lean checks it
import Derived.Test.YtopfaeefhicljaaP0
import Derived.Test.YtopfaeefhicljaaP3
import Derived.Test.YtopfaeefhicljaaP4
namespace Go.Proofs.Ytopfaeefhicljaa.Q
open Go.RowKit Go.Proofs.YtopfaeefhicljaaW.PrintWords Go.Proofs.YtopfaeefhicljaaW.PrintLast Go.Proofs.YtopfaeefhicljaaW.PrintMore
attribute [local go_sem] max2_int min2_int max_two min_two max_three min_three max_four min_four   -- for this text's walks alone
set_option linter.unusedVariables false
set_option linter.unusedSimpArgs false

/-! ### page_Encode: function 16 -/
mutual
def page_Encode.l0 : Nat → List Int → List ByteArray → Int → Int → Int → List ByteArray → List ByteArray → List Int → Int → Int → Int → Int → Option (List Int × Int)
 | 0, _, _, _, _, _, _, _, _, _, _, _, _ => none
 | k + 1, x6, x31, x32, x33, zr, zl, zm, zs, zt, zu, zv, zw => if x33 < x32 then (if 0 ≤ x33 then (if x33 < (x31.length : Int) then ((num_Text.f k x6 (rdOf ByteArray.empty x31 x33)).bind fun t135 => (if x33 < (zm.length : Int) then ((num_Text.f k t135 (rdOf ByteArray.empty zm x33)).bind fun t139 => (page_Encode.l0 k t139 x31 x32 (wrap64 (x33 + 1)) zr zl zm zs zt zu zv zw)) else (none))) else (none)) else (none)) else (some (x6, 0))
def page_Encode.l1 : Nat → List Int → List Int → Int → Int → Int → List ByteArray → List ByteArray → List Int → Int → Int → Int → Int → Option (List Int × Int)
 | 0, _, _, _, _, _, _, _, _, _, _, _, _ => none
 | k + 1, x6, x57, x58, x59, zr, zl, zm, zs, zt, zu, zv, zw => if x59 < x58 then (if 0 ≤ x59 then (if x59 < (x57.length : Int) then (if x59 > 0 then (if 0 ≤ (wrap64 (x59 - 1)) then (if (wrap64 (x59 - 1)) < (zl.length : Int) then ((num_Text.f k x6 (rdOf ByteArray.empty zl (wrap64 (x59 - 1)))).bind fun t147 => ((num_Put.f k t147 (IntKind.u64.wrap (rd x57 x59))).bind fun t150 => (page_Encode.l1 k t150 x57 x58 (wrap64 (x59 + 1)) zr zl zm zs zt zu zv zw))) else (none)) else (none)) else ((num_Put.f k x6 (IntKind.u64.wrap (rd x57 x59))).bind fun t153 => (page_Encode.l1 k t153 x57 x58 (wrap64 (x59 + 1)) zr zl zm zs zt zu zv zw))) else (none)) else (none)) else (some (x6, 0))
end
def page_Encode.f (k : Nat) (a0_0 : Int) (l0_1 : List ByteArray) (l0_2 : List ByteArray) (l0_3 : List Int) (a0_4 : Int) (a0_5 : Int) (a0_6 : Int) (a0_7 : Int) (a1 : Int) : Option (List Int × Int) := (page_Page_Right.f k a0_0 l0_1 l0_2 l0_3 a0_4 a0_5 a0_6 a0_7).bind fun t124 => (if t124 = true then ((num_Put.f k ([] : List Int) (IntKind.u64.wrap (a0_0))).bind fun t125 => ((num_Put.f k t125 a1).bind fun t128 => (if a0_0 = 1 then ((num_Put.f k t128 (IntKind.u64.wrap ((l0_1.length : Int)))).bind fun t131 => (page_Encode.l0 k t131 l0_1 (l0_1.length : Int) 0 a0_0 l0_1 l0_2 l0_3 a0_4 a0_5 a0_6 a0_7)) else (if a0_0 = 2 then ((num_Put.f k t128 (IntKind.u64.wrap ((l0_3.length : Int)))).bind fun t142 => (page_Encode.l1 k t142 l0_3 (l0_3.length : Int) 0 a0_0 l0_1 l0_2 l0_3 a0_4 a0_5 a0_6 a0_7)) else (if a0_0 = 3 then ((num_Put.f k t128 (IntKind.u64.wrap (a0_4))).bind fun t156 => ((num_Put.f k t156 (IntKind.u64.wrap (a0_5))).bind fun t159 => ((num_Put.f k t159 (IntKind.u64.wrap (a0_6))).bind fun t162 => ((num_Put.f k t162 (IntKind.u64.wrap (a0_7))).bind fun t165 => (some (t165, 0)))))) else (if a0_0 = 4 then ((num_Put.f k t128 (IntKind.u64.wrap (a0_5))).bind fun t168 => (some (t168, 0))) else (some (t128, 0)))))))) else (some (([] : List Int), 1)))
theorem page_Encode.mono_l : ∀ k, (∀ y0 y1 y2 y3 y4 y5 y6 y7 y8 y9 y10 y11, LeO (page_Encode.l0 k y0 y1 y2 y3 y4 y5 y6 y7 y8 y9 y10 y11) (page_Encode.l0 (k + 1) y0 y1 y2 y3 y4 y5 y6 y7 y8 y9 y10 y11)) ∧ (∀ y0 y1 y2 y3 y4 y5 y6 y7 y8 y9 y10 y11, LeO (page_Encode.l1 k y0 y1 y2 y3 y4 y5 y6 y7 y8 y9 y10 y11) (page_Encode.l1 (k + 1) y0 y1 y2 y3 y4 y5 y6 y7 y8 y9 y10 y11))
 | 0 => ⟨fun _ _ _ _ _ _ _ _ _ _ _ _ r h => by simp [page_Encode.l0] at h, fun _ _ _ _ _ _ _ _ _ _ _ _ r h => by simp [page_Encode.l1] at h⟩
 | k + 1 => by
  obtain ⟨ih0, ih1⟩ := page_Encode.mono_l k
  refine ⟨?_, ?_⟩
  ·intro y0 y1 y2 y3 y4 y5 y6 y7 y8 y9 y10 y11
   unfold page_Encode.l0
   repeat' first
   | (with_reducible exact ih0 _ _ _ _ _ _ _ _ _ _ _ _)
   | (with_reducible exact ih1 _ _ _ _ _ _ _ _ _ _ _ _)
   | (with_reducible exact num_Put.mono _ _ _)
   | (with_reducible exact num_Text.mono _ _ _)
   | (with_reducible exact page_Page_Right.mono _ _ _ _ _ _ _ _ _)
   | (with_reducible exact LeO.refl _)
   | (with_reducible exact LeO.none _)
   | (with_reducible refine LeO.ite ?_ ?_)
   | (with_reducible refine LeO.bind ?_ (fun _ => ?_))
   | exact ih0 _ _ _ _ _ _ _ _ _ _ _ _
   | exact ih1 _ _ _ _ _ _ _ _ _ _ _ _
   | exact num_Put.mono _ _ _
   | exact num_Text.mono _ _ _
   | exact page_Page_Right.mono _ _ _ _ _ _ _ _ _
   | exact LeO.none _
   | refine LeO.ite ?_ ?_
   | refine LeO.bind ?_ (fun _ => ?_)
  ·intro y0 y1 y2 y3 y4 y5 y6 y7 y8 y9 y10 y11
   unfold page_Encode.l1
   repeat' first
   | (with_reducible exact ih0 _ _ _ _ _ _ _ _ _ _ _ _)
   | (with_reducible exact ih1 _ _ _ _ _ _ _ _ _ _ _ _)
   | (with_reducible exact num_Put.mono _ _ _)
   | (with_reducible exact num_Text.mono _ _ _)
   | (with_reducible exact page_Page_Right.mono _ _ _ _ _ _ _ _ _)
   | (with_reducible exact LeO.refl _)
   | (with_reducible exact LeO.none _)
   | (with_reducible refine LeO.ite ?_ ?_)
   | (with_reducible refine LeO.bind ?_ (fun _ => ?_))
   | exact ih0 _ _ _ _ _ _ _ _ _ _ _ _
   | exact ih1 _ _ _ _ _ _ _ _ _ _ _ _
   | exact num_Put.mono _ _ _
   | exact num_Text.mono _ _ _
   | exact page_Page_Right.mono _ _ _ _ _ _ _ _ _
   | exact LeO.none _
   | refine LeO.ite ?_ ?_
   | refine LeO.bind ?_ (fun _ => ?_)
theorem page_Encode.mono : ∀ a0 a1 a2 a3 a4 a5 a6 a7 a8 k, LeO (page_Encode.f k a0 a1 a2 a3 a4 a5 a6 a7 a8) (page_Encode.f (k + 1) a0 a1 a2 a3 a4 a5 a6 a7 a8) := by
 intro a0 a1 a2 a3 a4 a5 a6 a7 a8 k
 obtain ⟨ih0, ih1⟩ := page_Encode.mono_l k
 unfold page_Encode.f
 repeat' first
   | (with_reducible exact ih0 _ _ _ _ _ _ _ _ _ _ _ _)
   | (with_reducible exact ih1 _ _ _ _ _ _ _ _ _ _ _ _)
   | (with_reducible exact num_Put.mono _ _ _)
   | (with_reducible exact num_Text.mono _ _ _)
   | (with_reducible exact page_Page_Right.mono _ _ _ _ _ _ _ _ _)
   | (with_reducible exact LeO.refl _)
   | (with_reducible exact LeO.none _)
   | (with_reducible refine LeO.ite ?_ ?_)
   | (with_reducible refine LeO.bind ?_ (fun _ => ?_))
   | exact ih0 _ _ _ _ _ _ _ _ _ _ _ _
   | exact ih1 _ _ _ _ _ _ _ _ _ _ _ _
   | exact num_Put.mono _ _ _
   | exact num_Text.mono _ _ _
   | exact page_Page_Right.mono _ _ _ _ _ _ _ _ _
   | exact LeO.none _
   | refine LeO.ite ?_ ?_
   | refine LeO.bind ?_ (fun _ => ?_)
def page_Encode.T10 : Bool × List (List Nat × List Nat) := (true, [([], []), ([], []), ([0, 1], [0, 1]), ([], []), ([3], [3]), ([], []), ([4, 5], [4, 5]), ([6], [6]), ([2, 7, 2], [2, 7]), ([8, 8, 0, 1, 2, 3, 4, 5, 6, 7, 8], [0, 8])])
def page_Encode.B10 : List Nat := [0, 0, 3, 0, 8, 0, 56, 120, 255, 511]
theorem page_Encode.tab10 : rtab .any (opsOf Try.f16 10) = page_Encode.T10 := by kernel_rfl
theorem page_Encode.bits10 : waitsOk page_Encode.T10.2 page_Encode.B10 = true := by kernel_rfl
def page_Encode.T22 : Bool × List (List Nat × List Nat) := (true, [([], []), ([], []), ([1], [1]), ([2], [2]), ([0, 3], [0, 3]), ([], []), ([5], [5]), ([6], [6]), ([4, 7, 4], [4, 7]), ([], []), ([9], [9]), ([10], [10]), ([8, 11, 8], [8, 11]), ([], []), ([13], [13]), ([14], [14]), ([12, 15, 12], [12, 15]), ([16, 16, 0, 1, 2, 3, 4, 5, 6, 7, 8, 9, 10, 11, 12, 13, 14, 15, 16], [0, 16])])
def page_Encode.B22 : List Nat := [0, 0, 2, 6, 15, 0, 32, 96, 255, 0, 512, 1536, 4095, 0, 8192, 24576, 65535, 131071]
theorem page_Encode.tab22 : rtab .any (opsOf Try.f16 22) = page_Encode.T22 := by kernel_rfl
theorem page_Encode.bits22 : waitsOk page_Encode.T22.2 page_Encode.B22 = true := by kernel_rfl
set_option maxHeartbeats 8000000 in
set_option maxRecDepth 100000 in
theorem page_Encode.calls (k : Nat) (a0_0 : Int) (A0_1 : Option Addr) (c0_1 : Nat) (l0_1 : List ByteArray) (A0_2 : Option Addr) (c0_2 : Nat) (l0_2 : List ByteArray) (A0_3 : Option Addr) (c0_3 : Nat) (l0_3 : List Int) (a0_4 : Int) (a0_5 : Int) (a0_6 : Int) (a0_7 : Int) (a1 : Int) (r1 : List Int) (r2 : Int) (w : World) (hr0_1 : Kd.C Kd.string w A0_1 l0_1.length l0_1) (hc0_1 : l0_1.length ≤ c0_1) (hr0_2 : Kd.C Kd.string w A0_2 l0_2.length l0_2) (hc0_2 : l0_2.length ≤ c0_2) (hr0_3 : Kd.C (Kd.int .i64) w A0_3 l0_3.length l0_3) (hc0_3 : l0_3.length ≤ c0_3) (h : page_Encode.f k a0_0 l0_1 l0_2 l0_3 a0_4 a0_5 a0_6 a0_7 a1 = some (r1, r2)) :
  Calls Try.prog 16 #[.agg #[.int .i64 a0_0, .slice A0_1 l0_1.length c0_1, .slice A0_2 l0_2.length c0_2, .slice A0_3 l0_3.length c0_3, .int .i64 a0_4, .int .i64 a0_5, .int .i64 a0_6, .int .i64 a0_7], .int .u64 a1] w fun e w' => ∃ v0_ : Value, e = .returned (.tuple #[v0_, .int .i64 r2]) ∧ Kd.R (Kd.int .u8) 5 w' w.heap.size (fun _ => True) v0_ r1 ∧ Below w.heap.size w w' := by
 have hu27 := Try.underlying27
 have zo := Aside0.mk hr0_1
 have zx := Aside0.mk hc0_1
 clear hr0_1 hc0_1
 have zq := Aside0.mk hr0_2
 have zy := Aside0.mk hc0_2
 clear hr0_2 hc0_2
 have zp := Aside0.mk hr0_3
 have zz := Aside0.mk hc0_3
 clear hr0_3 hc0_3
 have HB := Aside0.mk (Below.refl w.heap.size w)
 have H : ((page_Page_Right.f k a0_0 l0_1 l0_2 l0_3 a0_4 a0_5 a0_6 a0_7).bind fun t124 => (if t124 = true then ((num_Put.f k ([] : List Int) (IntKind.u64.wrap (a0_0))).bind fun t125 => ((num_Put.f k t125 a1).bind fun t128 => (if a0_0 = 1 then ((num_Put.f k t128 (IntKind.u64.wrap ((l0_1.length : Int)))).bind fun t131 => (page_Encode.l0 k t131 l0_1 (l0_1.length : Int) 0 a0_0 l0_1 l0_2 l0_3 a0_4 a0_5 a0_6 a0_7)) else (if a0_0 = 2 then ((num_Put.f k t128 (IntKind.u64.wrap ((l0_3.length : Int)))).bind fun t142 => (page_Encode.l1 k t142 l0_3 (l0_3.length : Int) 0 a0_0 l0_1 l0_2 l0_3 a0_4 a0_5 a0_6 a0_7)) else (if a0_0 = 3 then ((num_Put.f k t128 (IntKind.u64.wrap (a0_4))).bind fun t156 => ((num_Put.f k t156 (IntKind.u64.wrap (a0_5))).bind fun t159 => ((num_Put.f k t159 (IntKind.u64.wrap (a0_6))).bind fun t162 => ((num_Put.f k t162 (IntKind.u64.wrap (a0_7))).bind fun t165 => (some (t165, 0)))))) else (if a0_0 = 4 then ((num_Put.f k t128 (IntKind.u64.wrap (a0_5))).bind fun t168 => (some (t168, 0))) else (some (t128, 0)))))))) else (some (([] : List Int), 1)))) = some (r1, r2) := h
 clear h
 replace H := Option.bind_eq_some_iff.mp H
 obtain ⟨t124, A30, H⟩ := H
 replace H : (if t124 = true then ((num_Put.f k ([] : List Int) (IntKind.u64.wrap (a0_0))).bind fun t125 => ((num_Put.f k t125 a1).bind fun t128 => (if a0_0 = 1 then ((num_Put.f k t128 (IntKind.u64.wrap ((l0_1.length : Int)))).bind fun t131 => (page_Encode.l0 k t131 l0_1 (l0_1.length : Int) 0 a0_0 l0_1 l0_2 l0_3 a0_4 a0_5 a0_6 a0_7)) else (if a0_0 = 2 then ((num_Put.f k t128 (IntKind.u64.wrap ((l0_3.length : Int)))).bind fun t142 => (page_Encode.l1 k t142 l0_3 (l0_3.length : Int) 0 a0_0 l0_1 l0_2 l0_3 a0_4 a0_5 a0_6 a0_7)) else (if a0_0 = 3 then ((num_Put.f k t128 (IntKind.u64.wrap (a0_4))).bind fun t156 => ((num_Put.f k t156 (IntKind.u64.wrap (a0_5))).bind fun t159 => ((num_Put.f k t159 (IntKind.u64.wrap (a0_6))).bind fun t162 => ((num_Put.f k t162 (IntKind.u64.wrap (a0_7))).bind fun t165 => (some (t165, 0)))))) else (if a0_0 = 4 then ((num_Put.f k t128 (IntKind.u64.wrap (a0_5))).bind fun t168 => (some (t168, 0))) else (some (t128, 0)))))))) else (some (([] : List Int), 1))) = some (r1, r2) := H
 have A3 := Aside0.mk A30
 clear A30
 by_cases c4 : t124 = true
 ·subst c4
  have H1 : ((num_Put.f k ([] : List Int) (IntKind.u64.wrap (a0_0))).bind fun t125 => ((num_Put.f k t125 a1).bind fun t128 => (if a0_0 = 1 then ((num_Put.f k t128 (IntKind.u64.wrap ((l0_1.length : Int)))).bind fun t131 => (page_Encode.l0 k t131 l0_1 (l0_1.length : Int) 0 a0_0 l0_1 l0_2 l0_3 a0_4 a0_5 a0_6 a0_7)) else (if a0_0 = 2 then ((num_Put.f k t128 (IntKind.u64.wrap ((l0_3.length : Int)))).bind fun t142 => (page_Encode.l1 k t142 l0_3 (l0_3.length : Int) 0 a0_0 l0_1 l0_2 l0_3 a0_4 a0_5 a0_6 a0_7)) else (if a0_0 = 3 then ((num_Put.f k t128 (IntKind.u64.wrap (a0_4))).bind fun t156 => ((num_Put.f k t156 (IntKind.u64.wrap (a0_5))).bind fun t159 => ((num_Put.f k t159 (IntKind.u64.wrap (a0_6))).bind fun t162 => ((num_Put.f k t162 (IntKind.u64.wrap (a0_7))).bind fun t165 => (some (t165, 0)))))) else (if a0_0 = 4 then ((num_Put.f k t128 (IntKind.u64.wrap (a0_5))).bind fun t168 => (some (t168, 0))) else (some (t128, 0)))))))) = some (r1, r2) := by rw [if_pos rfl] at H; exact H
  clear H
  have H := H1
  clear H1
  replace H := Option.bind_eq_some_iff.mp H
  obtain ⟨t125, A50, H⟩ := H
  replace H : ((num_Put.f k t125 a1).bind fun t128 => (if a0_0 = 1 then ((num_Put.f k t128 (IntKind.u64.wrap ((l0_1.length : Int)))).bind fun t131 => (page_Encode.l0 k t131 l0_1 (l0_1.length : Int) 0 a0_0 l0_1 l0_2 l0_3 a0_4 a0_5 a0_6 a0_7)) else (if a0_0 = 2 then ((num_Put.f k t128 (IntKind.u64.wrap ((l0_3.length : Int)))).bind fun t142 => (page_Encode.l1 k t142 l0_3 (l0_3.length : Int) 0 a0_0 l0_1 l0_2 l0_3 a0_4 a0_5 a0_6 a0_7)) else (if a0_0 = 3 then ((num_Put.f k t128 (IntKind.u64.wrap (a0_4))).bind fun t156 => ((num_Put.f k t156 (IntKind.u64.wrap (a0_5))).bind fun t159 => ((num_Put.f k t159 (IntKind.u64.wrap (a0_6))).bind fun t162 => ((num_Put.f k t162 (IntKind.u64.wrap (a0_7))).bind fun t165 => (some (t165, 0)))))) else (if a0_0 = 4 then ((num_Put.f k t128 (IntKind.u64.wrap (a0_5))).bind fun t168 => (some (t168, 0))) else (some (t128, 0))))))) = some (r1, r2) := H
  have A5 := Aside0.mk A50
  clear A50
  replace H := Option.bind_eq_some_iff.mp H
  obtain ⟨t128, A60, H⟩ := H
  replace H : (if a0_0 = 1 then ((num_Put.f k t128 (IntKind.u64.wrap ((l0_1.length : Int)))).bind fun t131 => (page_Encode.l0 k t131 l0_1 (l0_1.length : Int) 0 a0_0 l0_1 l0_2 l0_3 a0_4 a0_5 a0_6 a0_7)) else (if a0_0 = 2 then ((num_Put.f k t128 (IntKind.u64.wrap ((l0_3.length : Int)))).bind fun t142 => (page_Encode.l1 k t142 l0_3 (l0_3.length : Int) 0 a0_0 l0_1 l0_2 l0_3 a0_4 a0_5 a0_6 a0_7)) else (if a0_0 = 3 then ((num_Put.f k t128 (IntKind.u64.wrap (a0_4))).bind fun t156 => ((num_Put.f k t156 (IntKind.u64.wrap (a0_5))).bind fun t159 => ((num_Put.f k t159 (IntKind.u64.wrap (a0_6))).bind fun t162 => ((num_Put.f k t162 (IntKind.u64.wrap (a0_7))).bind fun t165 => (some (t165, 0)))))) else (if a0_0 = 4 then ((num_Put.f k t128 (IntKind.u64.wrap (a0_5))).bind fun t168 => (some (t168, 0))) else (some (t128, 0)))))) = some (r1, r2) := H
  have A6 := Aside0.mk A60
  clear A60
  by_cases c7 : a0_0 = 1
  ·rw [if_pos c7] at H
   have c7b0 : (a0_0 == 1) = true := beq_iff_eq.mpr c7
   have c7b1 : (a0_0 != 1) = false := bne_eq_false_iff_eq.mpr c7
   clear c7
   replace H := Option.bind_eq_some_iff.mp H
   obtain ⟨t131, A80, H⟩ := H
   replace H : (page_Encode.l0 k t131 l0_1 (l0_1.length : Int) 0 a0_0 l0_1 l0_2 l0_3 a0_4 a0_5 a0_6 a0_7) = some (r1, r2) := H
   have A8 := Aside0.mk A80
   clear A80
   have H' := Aside0.mk H
   clear H
   go_enter Try.func16, Try.ntmps16
   go_wp2_with (first | ((with_reducible refine gate_dst (N := 2) rfl ?_); refine box_event ?hg (N := 2) ?hd (cs := #[.int .i64 a0_0, .slice A0_1 l0_1.length c0_1, .slice A0_2 l0_2.length c0_2, .slice A0_3 l0_3.length c0_3, .int .i64 a0_4, .int .i64 a0_5, .int .i64 a0_6, .int .i64 a0_7]) (t := 27) ?hr ?_; (case hd => rfl); (case hg => rfl); (case hr => first | (go_simp; done) | (go_simp; rfl)); intro zb hg w9 hbox hb; have n0_ := Aside0.mk (below_step (by repeat (first | (with_reducible first | exact HB.out | apply wA | apply wN | apply wD) | exact HB.out)) hb); have n1_ := Aside0.mk (hbox); have n2_ := Aside0.mk ((by rw [hg]; exact (below_size (by repeat (first | (with_reducible first | exact HB.out | apply wA | apply wN | apply wD) | exact HB.out))) : w.heap.size ≤ zb)); have n3_ := Aside0.mk ((by rw [hg]; exact (below_size (by repeat (first | (with_reducible first | exact HB.out | apply wA | apply wN | apply wD) | exact HB.out))) : w.heap.size ≤ zb)); clear HB; have HB := n0_; have za := n1_; have yb := n2_; have zc := n3_; clear n0_ n1_ n2_ n3_; clear hb hbox hg; have yj : w9.cell? ⟨zb, 0, none⟩ = some (.int .i64 a0_0) := (blk_cell za.out 0).trans rfl; have yk : w9.cell? ⟨zb, 1, none⟩ = some (.slice A0_1 l0_1.length c0_1) := (blk_cell za.out 1).trans rfl; have yl : w9.cell? ⟨zb, 2, none⟩ = some (.slice A0_2 l0_2.length c0_2) := (blk_cell za.out 2).trans rfl; have ym : w9.cell? ⟨zb, 3, none⟩ = some (.slice A0_3 l0_3.length c0_3) := (blk_cell za.out 3).trans rfl; have yn : w9.cell? ⟨zb, 4, none⟩ = some (.int .i64 a0_4) := (blk_cell za.out 4).trans rfl; have yo : w9.cell? ⟨zb, 5, none⟩ = some (.int .i64 a0_5) := (blk_cell za.out 5).trans rfl; have yp : w9.cell? ⟨zb, 6, none⟩ = some (.int .i64 a0_6) := (blk_cell za.out 6).trans rfl; have yq : w9.cell? ⟨zb, 7, none⟩ = some (.int .i64 a0_7) := (blk_cell za.out 7).trans rfl; have yr := blk_frozen za.out 0; have ys := blk_frozen za.out 1; have yt := blk_frozen za.out 2; have yu := blk_frozen za.out 3; have yv := blk_frozen za.out 4; have yw := blk_frozen za.out 5; have yx := blk_frozen za.out 6; have yy := blk_frozen za.out 7) | ((with_reducible refine gate_callee (f := 17) rfl ?_); refine goesL_ (some 12) rfl rfl Try.func17 (by kernel_rfl) rfl #[.agg #[.int .i64 a0_0, .slice A0_1 l0_1.length c0_1, .slice A0_2 l0_2.length c0_2, .slice A0_3 l0_3.length c0_3, .int .i64 a0_4, .int .i64 a0_5, .int .i64 a0_6, .int .i64 a0_7]] rfl (by (try simp only [List.map_toArray, List.map_cons, List.map_nil]); first | done | rfl | (simp only [List.length_drop, List.length_take]; rfl)) ?_; (with_reducible refine (page_Page_Right.calls k a0_0 _ _ l0_1 _ _ l0_2 _ _ l0_3 a0_4 a0_5 a0_6 a0_7 true _ ?side1 ?side2 ?side3 ?side4 ?side5 ?side6 A3.out).mono ?_); (case side1 => repeat (first | exact (Kd.C_below zo.out HB.out) | (with_reducible refine Kd.C_alloc ?_ _) | (with_reducible refine Kd.C_drewN ?_ _) | (with_reducible refine Kd.C_drew ?_))); (case side2 => exact zx.out); (case side3 => repeat (first | exact (Kd.C_below zq.out HB.out) | (with_reducible refine Kd.C_alloc ?_ _) | (with_reducible refine Kd.C_drewN ?_ _) | (with_reducible refine Kd.C_drew ?_))); (case side4 => exact zy.out); (case side5 => repeat (first | exact (Kd.C_below zp.out HB.out) | (with_reducible refine Kd.C_alloc ?_ _) | (with_reducible refine Kd.C_drewN ?_ _) | (with_reducible refine Kd.C_drew ?_))); (case side6 => exact zz.out); rintro e w11 ⟨rfl, hb⟩; refine ⟨_, rfl, ?_⟩; have n0_ := Aside0.mk (blk_below (g := zb) (o := .cells #[.int .i64 a0_0, .slice A0_1 l0_1.length c0_1, .slice A0_2 l0_2.length c0_2, .slice A0_3 l0_3.length c0_3, .int .i64 a0_4, .int .i64 a0_5, .int .i64 a0_6, .int .i64 a0_7] 27 (0, 0)) (by (with_reducible repeat (first | refine bN ?_ _ | refine bD ?_ | refine bA ?_ _)); exact za.out) hb); have n1_ := Aside0.mk (below_step (by repeat (first | (with_reducible first | exact HB.out | apply wA | apply wN | apply wD | refine wS ?_ zc.out) | exact HB.out)) hb); clear za; clear HB; have za := n0_; have HB := n1_; clear n0_ n1_; (try clear hb); (try clear hb2); (try clear hk); (try clear hi); have yz : w11.cell? ⟨zb, 0, none⟩ = some (.int .i64 a0_0) := (blk_cell za.out 0).trans rfl; have ja : w11.cell? ⟨zb, 1, none⟩ = some (.slice A0_1 l0_1.length c0_1) := (blk_cell za.out 1).trans rfl; have jb : w11.cell? ⟨zb, 2, none⟩ = some (.slice A0_2 l0_2.length c0_2) := (blk_cell za.out 2).trans rfl; have jc : w11.cell? ⟨zb, 3, none⟩ = some (.slice A0_3 l0_3.length c0_3) := (blk_cell za.out 3).trans rfl; have jd : w11.cell? ⟨zb, 4, none⟩ = some (.int .i64 a0_4) := (blk_cell za.out 4).trans rfl; have je : w11.cell? ⟨zb, 5, none⟩ = some (.int .i64 a0_5) := (blk_cell za.out 5).trans rfl; have jf : w11.cell? ⟨zb, 6, none⟩ = some (.int .i64 a0_6) := (blk_cell za.out 6).trans rfl; have jg : w11.cell? ⟨zb, 7, none⟩ = some (.int .i64 a0_7) := (blk_cell za.out 7).trans rfl; have jh := blk_frozen za.out 0; have ji := blk_frozen za.out 1; have jj := blk_frozen za.out 2; have jk := blk_frozen za.out 3; have jl := blk_frozen za.out 4; have jm := blk_frozen za.out 5; have jn := blk_frozen za.out 6; have jo := blk_frozen za.out 7) | ((with_reducible refine gate_callee (f := 35) rfl ?_); refine goesL_ (some 17) rfl rfl Try.func35 (by kernel_rfl) rfl #[.slice none 0 0, .int .u64 (IntKind.u64.wrap (a0_0))] rfl (by (try simp only [List.map_toArray, List.map_cons, List.map_nil]); first | done | rfl | (simp only [List.length_drop, List.length_take]; rfl)) ?_; (refine (num_Put.calls k (fun k_ => some k_ = (.slice none 0 0 : Value).ownBlock) (.slice none 0 0) ([] : List Int) (IntKind.u64.wrap (a0_0)) t125 w _ ?side1 ?side2 A5.out).mono ?_); (case side1 => repeat (first | (with_reducible first | exact HB.out | apply wA | apply wN | apply wD | refine wS ?_ zc.out) | exact HB.out)); (case side2 => exact Kd.R_nil _ _ _ _ _); rintro e w13 ⟨v126, rfl, ho0, hb, hkp⟩; refine ⟨_, rfl, ?_⟩; have n0_ := Aside0.mk (blk_kept (by (with_reducible repeat (first | refine bN ?_ _ | refine bD ?_ | refine bA ?_ _)); exact za.out) hkp (fun hs_ => (fun e_ => by simp [Value.ownBlock] at e_) hs_)); have n1_ := Aside0.mk (Kd.R_mono (ok' := fun k_ => True) ho0 (fun k_ hk_ => trivial)); have n2_ := Aside0.mk (hb); clear za; clear HB; have za := n0_; have zg := n1_; have HB := n2_; clear n0_ n1_ n2_; (try clear hb); (try clear hkp); (try clear ho0); obtain ⟨Ao14, co14, eo14⟩ := Kd.R_slice zg.out; subst eo14) | ((with_reducible refine gate_callee (f := 35) rfl ?_); refine goesL_ (some 19) rfl rfl Try.func35 (by kernel_rfl) rfl #[.slice Ao14 t125.length co14, .int .u64 a1] rfl (by (try simp only [List.map_toArray, List.map_cons, List.map_nil]); first | done | rfl | (simp only [List.length_drop, List.length_take]; rfl)) ?_; (with_reducible refine (num_Put.calls k (fun k_ => some k_ = (.slice Ao14 t125.length co14 : Value).ownBlock) (.slice Ao14 t125.length co14) t125 a1 t128 w _ ?side1 ?side2 A6.out).mono ?_); (case side1 => repeat (first | (with_reducible first | exact HB.out | apply wA | apply wN | apply wD | refine wS ?_ zc.out) | exact HB.out)); (case side2 => exact Kd.R_tight rfl zg.out); rintro e w15 ⟨v129, rfl, ho0, hb, hkp⟩; refine ⟨_, rfl, ?_⟩; have n0_ := Aside0.mk (blk_kept (by (with_reducible repeat (first | refine bN ?_ _ | refine bD ?_ | refine bA ?_ _)); exact za.out) hkp (fun hs_ => (fun e_ => (Kd.R_ne zg.out za.out (by decide)) e_) hs_)); have n1_ := Aside0.mk (Kd.R_mono (ok' := fun k_ => True) ho0 (fun k_ hk_ => trivial)); have n2_ := Aside0.mk (hb); clear za; clear HB; clear zg; have za := n0_; have zf := n1_; have HB := n2_; clear n0_ n1_ n2_; (try clear hb); (try clear hkp); (try clear ho0); have jp : w15.cell? ⟨zb, 0, none⟩ = some (.int .i64 a0_0) := (blk_cell za.out 0).trans rfl; have jq : w15.cell? ⟨zb, 1, none⟩ = some (.slice A0_1 l0_1.length c0_1) := (blk_cell za.out 1).trans rfl; have jr : w15.cell? ⟨zb, 2, none⟩ = some (.slice A0_2 l0_2.length c0_2) := (blk_cell za.out 2).trans rfl; have js : w15.cell? ⟨zb, 3, none⟩ = some (.slice A0_3 l0_3.length c0_3) := (blk_cell za.out 3).trans rfl; have jt : w15.cell? ⟨zb, 4, none⟩ = some (.int .i64 a0_4) := (blk_cell za.out 4).trans rfl; have ju : w15.cell? ⟨zb, 5, none⟩ = some (.int .i64 a0_5) := (blk_cell za.out 5).trans rfl; have jv : w15.cell? ⟨zb, 6, none⟩ = some (.int .i64 a0_6) := (blk_cell za.out 6).trans rfl; have jw : w15.cell? ⟨zb, 7, none⟩ = some (.int .i64 a0_7) := (blk_cell za.out 7).trans rfl; have jx := blk_frozen za.out 0; have jy := blk_frozen za.out 1; have jz := blk_frozen za.out 2; have zaa := blk_frozen za.out 3; have zab := blk_frozen za.out 4; have zac := blk_frozen za.out 5; have zad := blk_frozen za.out 6; have zae := blk_frozen za.out 7; obtain ⟨Ao17, co17, eo17⟩ := Kd.R_slice zf.out; subst eo17) | ((with_reducible refine gate_callee (f := 35) rfl ?_); refine goesL_ (some 29) rfl rfl Try.func35 (by kernel_rfl) rfl #[.slice Ao17 t128.length co17, .int .u64 (IntKind.u64.wrap ((l0_1.length : Int)))] rfl (by (try simp only [List.map_toArray, List.map_cons, List.map_nil]); first | done | rfl | (simp only [List.length_drop, List.length_take]; rfl)) ?_; (with_reducible refine (num_Put.calls k (fun k_ => some k_ = (.slice Ao17 t128.length co17 : Value).ownBlock) (.slice Ao17 t128.length co17) t128 (IntKind.u64.wrap ((l0_1.length : Int))) t131 w _ ?side1 ?side2 A8.out).mono ?_); (case side1 => repeat (first | (with_reducible first | exact HB.out | apply wA | apply wN | apply wD | refine wS ?_ zc.out) | exact HB.out)); (case side2 => exact Kd.R_tight rfl zf.out); rintro e w18 ⟨v132, rfl, ho0, hb, hkp⟩; refine ⟨_, rfl, ?_⟩; have n0_ := Aside0.mk (blk_kept (by (with_reducible repeat (first | refine bN ?_ _ | refine bD ?_ | refine bA ?_ _)); exact za.out) hkp (fun hs_ => (fun e_ => (Kd.R_ne zf.out za.out (by decide)) e_) hs_)); have n1_ := Aside0.mk (Kd.R_mono (ok' := fun k_ => True) ho0 (fun k_ hk_ => trivial)); have n2_ := Aside0.mk (hb); clear za; clear HB; clear zf; have za := n0_; have zcn := n1_; have HB := n2_; clear n0_ n1_ n2_; (try clear hb); (try clear hkp); (try clear ho0); have zaf : w18.cell? ⟨zb, 0, none⟩ = some (.int .i64 a0_0) := (blk_cell za.out 0).trans rfl; have zag : w18.cell? ⟨zb, 1, none⟩ = some (.slice A0_1 l0_1.length c0_1) := (blk_cell za.out 1).trans rfl; have zah : w18.cell? ⟨zb, 2, none⟩ = some (.slice A0_2 l0_2.length c0_2) := (blk_cell za.out 2).trans rfl; have zai : w18.cell? ⟨zb, 3, none⟩ = some (.slice A0_3 l0_3.length c0_3) := (blk_cell za.out 3).trans rfl; have zaj : w18.cell? ⟨zb, 4, none⟩ = some (.int .i64 a0_4) := (blk_cell za.out 4).trans rfl; have zak : w18.cell? ⟨zb, 5, none⟩ = some (.int .i64 a0_5) := (blk_cell za.out 5).trans rfl; have zal : w18.cell? ⟨zb, 6, none⟩ = some (.int .i64 a0_6) := (blk_cell za.out 6).trans rfl; have zam : w18.cell? ⟨zb, 7, none⟩ = some (.int .i64 a0_7) := (blk_cell za.out 7).trans rfl; have zan := blk_frozen za.out 0; have zao := blk_frozen za.out 1; have zap := blk_frozen za.out 2; have zaq := blk_frozen za.out 3; have zar := blk_frozen za.out 4; have zas := blk_frozen za.out 5; have zat := blk_frozen za.out 6; have zau := blk_frozen za.out 7))
   go_loopg [6, 33] k (fun kq v6 v33 w' => ∃ (zh : List Int) (ze : Int), v33 = .int .i64 ze ∧ Aside0 (page_Encode.l0 kq zh l0_1 (l0_1.length : Int) ze a0_0 l0_1 l0_2 l0_3 a0_4 a0_5 a0_6 a0_7 = some (r1, r2)) ∧ Aside0 (kq ≤ k) ∧ Aside0 (Kd.R (Kd.int .u8) 5 w' w.heap.size (fun _ => True) v6 zh) ∧ Aside0 (w'.heap[zb]? = some (.cells #[.int .i64 a0_0, (.slice A0_1 l0_1.length c0_1), (.slice A0_2 l0_2.length c0_2), (.slice A0_3 l0_3.length c0_3), .int .i64 a0_4, .int .i64 a0_5, .int .i64 a0_6, .int .i64 a0_7] 27 (0, 0))) ∧ Aside0 (Below w.heap.size w w'))
   case atStart => exact ⟨(t131), (0), (by first | rfl | (simp; done) | (simp [*]; done)), H', ⟨Nat.le_refl _⟩, ⟨by (with_reducible repeat (first | apply Kd.R_alloc | apply Kd.R_drewN | apply Kd.R_drew)); exact zcn.out⟩, ⟨by (with_reducible repeat (first | refine bN ?_ _ | refine bD ?_ | refine bA ?_ _)); exact za.out⟩, ⟨by repeat (first | (with_reducible first | exact HB.out | apply wA | apply wN | apply wD | refine wS ?_ zc.out) | exact HB.out)⟩⟩
   case round =>
    clear H'
    (try clear c1); (try clear p2); (try clear c3); (try clear c4); (try clear c7); (try clear c7b0); (try clear c7b1); (try clear c16); (try clear c17); (try clear yj yk yl ym yn yo yp yq); (try clear yz ja jb jc jd je jf jg); (try clear jp jq jr js jt ju jv jw); (try clear zaf zag zah zai zaj zak zal zam); (try clear yr ys yt yu yv yw yx yy); (try clear jh ji jj jk jl jm jn jo); (try clear jx jy jz zaa zab zac zad zae); (try clear zan zao zap zaq zar zas zat zau)
    obtain ⟨zh, ze, rfl, HA, HK1, zi, za, HB⟩ := hrel
    cases gk with
    | zero => exact absurd HA.out (by simp [page_Encode.l0])
    | succ k1 =>
     have H := HA.out
     clear HA
     simp only [page_Encode.l0] at H
     by_cases c20 : ze < (l0_1.length : Int)
     ·rw [if_pos c20] at H
      have c20b0 : decide (ze < (l0_1.length : Int)) = true := decide_eq_true c20
      clear c20
      by_cases c21 : 0 ≤ ze
      ·rw [if_pos c21] at H
       have c21b0 : decide (0 ≤ ze) = true := decide_eq_true c21
       clear c21
       by_cases c22 : ze < (l0_1.length : Int)
       ·rw [if_pos c22] at H
        have c22b0 : decide (ze < (l0_1.length : Int)) = true := decide_eq_true c22
        clear c22
        replace H := Option.bind_eq_some_iff.mp H
        obtain ⟨t135, A230, H⟩ := H
        replace H : (if ze < (l0_2.length : Int) then ((num_Text.f k1 t135 (rdOf ByteArray.empty l0_2 ze)).bind fun t139 => (page_Encode.l0 k1 t139 l0_1 (l0_1.length : Int) (wrap64 (ze + 1)) a0_0 l0_1 l0_2 l0_3 a0_4 a0_5 a0_6 a0_7)) else (none)) = some (r1, r2) := H
        have A23 := Aside0.mk A230
        clear A230
        by_cases c24 : ze < (l0_2.length : Int)
        ·rw [if_pos c24] at H
         have c24b0 : decide (ze < (l0_2.length : Int)) = true := decide_eq_true c24
         clear c24
         replace H := Option.bind_eq_some_iff.mp H
         obtain ⟨t139, A250, H⟩ := H
         replace H : (page_Encode.l0 k1 t139 l0_1 (l0_1.length : Int) (wrap64 (ze + 1)) a0_0 l0_1 l0_2 l0_3 a0_4 a0_5 a0_6 a0_7) = some (r1, r2) := H
         have A25 := Aside0.mk A250
         clear A250
         have H' := Aside0.mk H
         clear H
         have p134 : 0 ≤ (ze : Int) := of_decide_eq_true (by first | (with_reducible assumption) | assumption)
         have q134 : ze < (l0_1.length : Int) := of_decide_eq_true (by first | (with_reducible assumption) | assumption)
         obtain ⟨ad134, e134, ya⟩ := Kd.at_string zo.out ze p134 q134
         cases e134
         replace ya := (HB.out.cell (World.block_lt_of_cell? w _ ya)).trans ya
         replace p134 := eq_true p134
         replace q134 := eq_true q134
         try go_wp2
         have n0_ := Aside0.mk (Kd.R_drew zi.out)
         have n1_ := Aside0.mk (bD za.out)
         have n2_ := Aside0.mk (wD HB.out)
         clear zi za HB
         have zi := n0_
         have za := n1_
         have HB := n2_
         clear n0_ n1_ n2_
         have p138 : 0 ≤ (ze : Int) := of_decide_eq_true (by first | (with_reducible assumption) | assumption)
         have q138 : ze < (l0_2.length : Int) := of_decide_eq_true (by first | (with_reducible assumption) | assumption)
         obtain ⟨ad138, e138, zn⟩ := Kd.at_string zq.out ze p138 q138
         have hw138_0 := zn
         cases e138
         replace zn := (HB.out.cell (World.block_lt_of_cell? w _ zn)).trans zn
         replace p138 := eq_true p138
         replace q138 := eq_true q138
         obtain ⟨Ao27, co27, eo27⟩ := Kd.R_slice zi.out
         (first | subst eo27 | (injection eo27 with f1_ f2_ f3_; have f4_ := f1_.symm; have f5_ := f3_.symm; clear f1_ f2_ f3_; subst f4_; subst f5_))
         refine start_ (n := 10) (S := fun w' => w'.cell? ⟨zb, 0, none⟩ = some (.int .i64 a0_0) ∧ w'.cell? ⟨zb, 1, none⟩ = some (.slice (some ad134) l0_1.length c0_1) ∧ w'.cell? ⟨zb, 2, none⟩ = some (.slice (some ad138) l0_2.length c0_2) ∧ w'.cell? ⟨zb, 3, none⟩ = some (.slice A0_3 l0_3.length c0_3) ∧ w'.cell? ⟨zb, 4, none⟩ = some (.int .i64 a0_4) ∧ w'.cell? ⟨zb, 5, none⟩ = some (.int .i64 a0_5) ∧ w'.cell? ⟨zb, 6, none⟩ = some (.int .i64 a0_6) ∧ w'.cell? ⟨zb, 7, none⟩ = some (.int .i64 a0_7) ∧ w'.cell? (ad138.add (ze).toNat) = some (.string (rdOf ByteArray.empty l0_2 ze))) (ds := []) #[false, false, false, false, false, false, false, false, false, false] (by kernel_rfl) rfl rfl ⟨(blk_cell za.out 0).trans rfl, (blk_cell za.out 1).trans rfl, (blk_cell za.out 2).trans rfl, (blk_cell za.out 3).trans rfl, (blk_cell za.out 4).trans rfl, (blk_cell za.out 5).trans rfl, (blk_cell za.out 6).trans rfl, (blk_cell za.out 7).trans rfl, ((HB.out.cell (World.block_lt_of_cell? w _ hw138_0)).trans hw138_0)⟩ (fun hHeld => ?_); refine with_tabW page_Encode.tab10 page_Encode.bits10 (fun HT_ HW_ => ?_)
         generalize wr.drew = w26 at zi za HB zn hHeld ⊢
         refine pure_ (i := 0) (N := some 38) (v := ?_) (a' := ?_) #[true, false, false, false, false, false, false, false, false, false] rfl rfl (any_of HT_.out (by kernel_rfl)) (fun _ _ _ h => h) (Or.inl ⟨by rfl, ?_⟩) ?_ ?_
         rotate_left
         ·intro w'
          go_simp
          with_reducible rfl
         rotate_left
         ·simp only [Act.put, List.setIfInBounds_toArray, List.set_cons_zero, List.set_cons_succ, i64_w, i32_w]
          rfl
         refine pure_ (i := 1) (N := some 39) (v := ?_) (a' := ?_) #[true, true, false, false, false, false, false, false, false, false] rfl rfl (any_of HT_.out (by kernel_rfl)) (fun _ _ _ h => h) (Or.inl ⟨by rfl, ?_⟩) ?_ ?_
         rotate_left
         ·intro w'
          go_simp
          with_reducible rfl
         rotate_left
         ·simp only [Act.put, List.setIfInBounds_toArray, List.set_cons_zero, List.set_cons_succ, i64_w, i32_w]
          rfl
         refine pure_ (i := 3) (N := some 41) (v := ?_) (a' := ?_) #[true, true, false, true, false, false, false, false, false, false] rfl rfl (any_of HT_.out (by kernel_rfl)) (fun _ _ _ h => h) (Or.inl ⟨by rfl, ?_⟩) ?_ ?_
         rotate_left
         ·intro w'
          go_simp
          with_reducible rfl
         rotate_left
         ·simp only [Act.put, List.setIfInBounds_toArray, List.set_cons_zero, List.set_cons_succ, i64_w, i32_w]
          rfl
         refine pure_ (i := 5) (N := some 43) (v := ?_) (a' := ?_) #[true, true, false, true, false, true, false, false, false, false] rfl rfl (any_of HT_.out (by kernel_rfl)) (fun _ _ _ h => h) (Or.inl ⟨by rfl, ?_⟩) ?_ ?_
         rotate_left
         ·intro w'
          go_simp
          with_reducible rfl
         rotate_left
         ·simp only [Act.put, List.setIfInBounds_toArray, List.set_cons_zero, List.set_cons_succ, i64_w, i32_w]
          rfl
         refine take_ (i := 4) (N := some 42) (v := ?_) (a' := ?_) #[true, true, false, true, true, true, false, false, false, false] rfl rfl (take_ofW HT_.out HW_.out (by kernel_rfl)) (fun _ _ _ h => h) (Or.inl ⟨by rfl, ?_⟩) hHeld ?_ ?_
         rotate_left
         ·rintro w' ⟨s0, s1, s2, s3, s4, s5, s6, s7, s8⟩
          go_simp
          with_reducible rfl
         rotate_left
         ·simp only [Act.put, List.setIfInBounds_toArray, List.set_cons_zero, List.set_cons_succ, i64_w, i32_w]
          rfl
         refine pure_ (i := 6) (N := some 44) (v := ?_) (a' := ?_) #[true, true, false, true, true, true, true, false, false, false] rfl rfl (any_of HT_.out (by kernel_rfl)) (fun _ _ _ h => h) (Or.inl ⟨by rfl, ?_⟩) ?_ ?_
         rotate_left
         ·intro w'
          go_simp
          with_reducible rfl
         rotate_left
         ·simp only [Act.put, List.setIfInBounds_toArray, List.set_cons_zero, List.set_cons_succ, i64_w, i32_w]
          rfl
         refine take_ (i := 7) (N := some 45) (v := ?_) (a' := ?_) #[true, true, false, true, true, true, true, true, false, false] rfl rfl (take_ofW HT_.out HW_.out (by kernel_rfl)) (fun _ _ _ h => h) (Or.inl ⟨by rfl, ?_⟩) hHeld ?_ ?_
         rotate_left
         ·rintro w' ⟨s0, s1, s2, s3, s4, s5, s6, s7, s8⟩
          go_simp
          with_reducible rfl
         rotate_left
         ·simp only [Act.put, List.setIfInBounds_toArray, List.set_cons_zero, List.set_cons_succ, i64_w, i32_w]
          rfl
         refine one_ (i := 2) (N := some 40) #[true, true, true, true, true, true, true, true, false, false] rfl rfl (one_of HT_.out (by kernel_rfl)) (by decide) (fun K hK => ?_)
         refine goes_ Try.func36 (by kernel_rfl) rfl #[.slice Ao27 zh.length co27, .string (rdOf ByteArray.empty l0_1 ze)] (by rfl) rfl rfl (by (try simp only [List.map_toArray, List.map_cons, List.map_nil]); first | done | rfl | (simp only [List.length_drop, List.length_take]; rfl)) ?_
         with_reducible refine (num_Text.calls k1 (fun k_ => some k_ = (.slice Ao27 zh.length co27 : Value).ownBlock) (.slice Ao27 zh.length co27) zh (rdOf ByteArray.empty l0_1 ze) t135 w _ ?side1 ?side2 A23.out).mono ?_
         (case side1 => repeat (first | (with_reducible first | exact HB.out | apply wA | apply wN | apply wD | refine wS ?_ zc.out) | exact HB.out))
         (case side2 => exact Kd.R_tight rfl zi.out)
         rintro e w28 ⟨v136, rfl, ho0, hb, hkp⟩
         refine ⟨_, rfl, ?_⟩
         have n0_ := Aside0.mk (blk_kept (by (with_reducible repeat (first | refine bN ?_ _ | refine bD ?_ | refine bA ?_ _)); exact za.out) hkp (fun hs_ => (fun e_ => (Kd.R_ne zi.out za.out (by decide)) e_) hs_))
         have n1_ := Aside0.mk (Kd.R_mono (ok' := fun k_ => True) ho0 (fun k_ hk_ => trivial))
         have n2_ := Aside0.mk (hb)
         clear za HB zi
         have za := n0_
         have yd := n1_
         have HB := n2_
         clear n0_ n1_ n2_
         (try clear hb)
         (try clear hkp)
         (try clear ho0)
         obtain ⟨Ao29, co29, eo29⟩ := Kd.R_slice yd.out
         (first | subst eo29 | (injection eo29 with f1_ f2_ f3_; have f4_ := f1_.symm; have f5_ := f3_.symm; clear f1_ f2_ f3_; subst f4_; subst f5_))
         refine hK.out _ _ ⟨(blk_cell za.out 0).trans rfl, (blk_cell za.out 1).trans rfl, (blk_cell za.out 2).trans rfl, (blk_cell za.out 3).trans rfl, (blk_cell za.out 4).trans rfl, (blk_cell za.out 5).trans rfl, (blk_cell za.out 6).trans rfl, (blk_cell za.out 7).trans rfl, ((HB.out.cell (World.block_lt_of_cell? w _ hw138_0)).trans hw138_0)⟩ (fun hHeld => ?_)
         clear hK K
         refine norm_ (a' := ?_) ?_ ?_
         rotate_left
         ·show Act.put _ (some 40) _ = _
          simp only [Act.put, List.setIfInBounds_toArray, List.set_cons_zero, List.set_cons_succ, i64_w, i32_w]
          rfl
         refine one_ (i := 8) (N := some 46) #[true, true, true, true, true, true, true, true, true, false] rfl rfl (one_of HT_.out (by kernel_rfl)) (by decide) (fun K hK => ?_)
         refine goes_ Try.func36 (by kernel_rfl) rfl #[.slice Ao29 t135.length co29, .string (rdOf ByteArray.empty l0_2 ze)] (by rfl) rfl rfl (by (try simp only [List.map_toArray, List.map_cons, List.map_nil]); first | done | rfl | (simp only [List.length_drop, List.length_take]; rfl)) ?_
         with_reducible refine (num_Text.calls k1 (fun k_ => some k_ = (.slice Ao29 t135.length co29 : Value).ownBlock) (.slice Ao29 t135.length co29) t135 (rdOf ByteArray.empty l0_2 ze) t139 w _ ?side1 ?side2 A25.out).mono ?_
         (case side1 => repeat (first | (with_reducible first | exact HB.out | apply wA | apply wN | apply wD | refine wS ?_ zc.out) | exact HB.out))
         (case side2 => exact Kd.R_tight rfl yd.out)
         rintro e w30 ⟨v140, rfl, ho0, hb, hkp⟩
         refine ⟨_, rfl, ?_⟩
         have n0_ := Aside0.mk (blk_kept (by (with_reducible repeat (first | refine bN ?_ _ | refine bD ?_ | refine bA ?_ _)); exact za.out) hkp (fun hs_ => (fun e_ => (Kd.R_ne yd.out za.out (by decide)) e_) hs_))
         have n1_ := Aside0.mk (Kd.R_mono (ok' := fun k_ => True) ho0 (fun k_ hk_ => trivial))
         have n2_ := Aside0.mk (hb)
         clear za HB yd
         have za := n0_
         have zco := n1_
         have HB := n2_
         clear n0_ n1_ n2_
         (try clear hb)
         (try clear hkp)
         (try clear ho0)
         refine hK.out _ _ ⟨(blk_cell za.out 0).trans rfl, (blk_cell za.out 1).trans rfl, (blk_cell za.out 2).trans rfl, (blk_cell za.out 3).trans rfl, (blk_cell za.out 4).trans rfl, (blk_cell za.out 5).trans rfl, (blk_cell za.out 6).trans rfl, (blk_cell za.out 7).trans rfl, ((HB.out.cell (World.block_lt_of_cell? w _ hw138_0)).trans hw138_0)⟩ (fun hHeld => ?_)
         clear hK K
         refine norm_ (a' := ?_) ?_ ?_
         rotate_left
         ·show Act.put _ (some 46) _ = _
          simp only [Act.put, List.setIfInBounds_toArray, List.set_cons_zero, List.set_cons_succ, i64_w, i32_w]
          rfl
         refine pure_ (i := 9) (N := some 6) (v := ?_) (a' := ?_) #[true, true, true, true, true, true, true, true, true, true] rfl rfl (any_of HT_.out (by kernel_rfl)) (fun _ _ _ h => h) (Or.inl ⟨by rfl, ?_⟩) ?_ ?_
         rotate_left
         ·intro w'
          go_simp
          with_reducible rfl
         rotate_left
         ·simp only [Act.put, List.setIfInBounds_toArray, List.set_cons_zero, List.set_cons_succ, i64_w, i32_w]
          rfl
         refine done_ (done_of HT_.out (by kernel_rfl)) ?_
         try go_wp2
         go_roundg k1
         case measure => have := HK1.out; omega
         case rel => exact ⟨(t139), (wrap64 (ze + 1)), (by first | rfl | (simp; done) | (simp [*]; done)), H', ⟨by have := HK1.out; omega⟩, ⟨by (with_reducible repeat (first | apply Kd.R_alloc | apply Kd.R_drewN | apply Kd.R_drew)); exact zco.out⟩, ⟨by (with_reducible repeat (first | refine bN ?_ _ | refine bD ?_ | refine bA ?_ _)); exact za.out⟩, ⟨by repeat (first | (with_reducible first | exact HB.out | apply wA | apply wN | apply wD | refine wS ?_ zc.out) | exact HB.out)⟩⟩
        ·rw [if_neg c24] at H
         exact absurd H (by simp)
       ·rw [if_neg c22] at H
        exact absurd H (by simp)
      ·rw [if_neg c21] at H
       exact absurd H (by simp)
     ·rw [if_neg c20] at H
      have c20b0 : decide (ze < (l0_1.length : Int)) = false := decide_eq_false c20
      clear c20
      simp only [Option.some.injEq, Prod.mk.injEq] at H
      obtain ⟨rfl, rfl⟩ := H
      go_wp2
      go_ret2
      exact ⟨_, by first | rfl | (simp [errW_none, errW_some] <;> rfl) | (simp [*, errW_none, errW_some] <;> rfl), by (with_reducible repeat (first | apply Kd.R_alloc | apply Kd.R_drewN | apply Kd.R_drew)); exact zi.out, by repeat (first | (with_reducible first | exact HB.out | apply wA | apply wN | apply wD | refine wS ?_ zc.out) | exact HB.out)⟩
  ·rw [if_neg c7] at H
   have c7b0 : (a0_0 == 1) = false := beq_eq_false_iff_ne.mpr c7
   have c7b1 : (a0_0 != 1) = true := bne_iff_ne.mpr c7
   by_cases c31 : a0_0 = 2
   ·rw [if_pos c31] at H
    have c31b0 : (a0_0 == 2) = true := beq_iff_eq.mpr c31
    have c31b1 : (a0_0 != 2) = false := bne_eq_false_iff_eq.mpr c31
    clear c31
    replace H := Option.bind_eq_some_iff.mp H
    obtain ⟨t142, A320, H⟩ := H
    replace H : (page_Encode.l1 k t142 l0_3 (l0_3.length : Int) 0 a0_0 l0_1 l0_2 l0_3 a0_4 a0_5 a0_6 a0_7) = some (r1, r2) := H
    have A32 := Aside0.mk A320
    clear A320
    have H' := Aside0.mk H
    clear H
    go_enter Try.func16, Try.ntmps16
    go_wp2_with (first | ((with_reducible refine gate_dst (N := 2) rfl ?_); refine box_event ?hg (N := 2) ?hd (cs := #[.int .i64 a0_0, .slice A0_1 l0_1.length c0_1, .slice A0_2 l0_2.length c0_2, .slice A0_3 l0_3.length c0_3, .int .i64 a0_4, .int .i64 a0_5, .int .i64 a0_6, .int .i64 a0_7]) (t := 27) ?hr ?_; (case hd => rfl); (case hg => rfl); (case hr => first | (go_simp; done) | (go_simp; rfl)); intro zb hg w33 hbox hb; have n0_ := Aside0.mk (below_step (by repeat (first | (with_reducible first | exact HB.out | apply wA | apply wN | apply wD) | exact HB.out)) hb); have n1_ := Aside0.mk (hbox); have n2_ := Aside0.mk ((by rw [hg]; exact (below_size (by repeat (first | (with_reducible first | exact HB.out | apply wA | apply wN | apply wD) | exact HB.out))) : w.heap.size ≤ zb)); have n3_ := Aside0.mk ((by rw [hg]; exact (below_size (by repeat (first | (with_reducible first | exact HB.out | apply wA | apply wN | apply wD) | exact HB.out))) : w.heap.size ≤ zb)); clear HB; have HB := n0_; have za := n1_; have yb := n2_; have zc := n3_; clear n0_ n1_ n2_ n3_; clear hb hbox hg; have zav : w33.cell? ⟨zb, 0, none⟩ = some (.int .i64 a0_0) := (blk_cell za.out 0).trans rfl; have zaw : w33.cell? ⟨zb, 1, none⟩ = some (.slice A0_1 l0_1.length c0_1) := (blk_cell za.out 1).trans rfl; have zax : w33.cell? ⟨zb, 2, none⟩ = some (.slice A0_2 l0_2.length c0_2) := (blk_cell za.out 2).trans rfl; have zay : w33.cell? ⟨zb, 3, none⟩ = some (.slice A0_3 l0_3.length c0_3) := (blk_cell za.out 3).trans rfl; have zaz : w33.cell? ⟨zb, 4, none⟩ = some (.int .i64 a0_4) := (blk_cell za.out 4).trans rfl; have za0 : w33.cell? ⟨zb, 5, none⟩ = some (.int .i64 a0_5) := (blk_cell za.out 5).trans rfl; have za1 : w33.cell? ⟨zb, 6, none⟩ = some (.int .i64 a0_6) := (blk_cell za.out 6).trans rfl; have za2 : w33.cell? ⟨zb, 7, none⟩ = some (.int .i64 a0_7) := (blk_cell za.out 7).trans rfl; have za3 := blk_frozen za.out 0; have za4 := blk_frozen za.out 1; have za5 := blk_frozen za.out 2; have za6 := blk_frozen za.out 3; have za7 := blk_frozen za.out 4; have za8 := blk_frozen za.out 5; have za9 := blk_frozen za.out 6; have zba := blk_frozen za.out 7) | ((with_reducible refine gate_callee (f := 17) rfl ?_); refine goesL_ (some 12) rfl rfl Try.func17 (by kernel_rfl) rfl #[.agg #[.int .i64 a0_0, .slice A0_1 l0_1.length c0_1, .slice A0_2 l0_2.length c0_2, .slice A0_3 l0_3.length c0_3, .int .i64 a0_4, .int .i64 a0_5, .int .i64 a0_6, .int .i64 a0_7]] rfl (by (try simp only [List.map_toArray, List.map_cons, List.map_nil]); first | done | rfl | (simp only [List.length_drop, List.length_take]; rfl)) ?_; (with_reducible refine (page_Page_Right.calls k a0_0 _ _ l0_1 _ _ l0_2 _ _ l0_3 a0_4 a0_5 a0_6 a0_7 true _ ?side1 ?side2 ?side3 ?side4 ?side5 ?side6 A3.out).mono ?_); (case side1 => repeat (first | exact (Kd.C_below zo.out HB.out) | (with_reducible refine Kd.C_alloc ?_ _) | (with_reducible refine Kd.C_drewN ?_ _) | (with_reducible refine Kd.C_drew ?_))); (case side2 => exact zx.out); (case side3 => repeat (first | exact (Kd.C_below zq.out HB.out) | (with_reducible refine Kd.C_alloc ?_ _) | (with_reducible refine Kd.C_drewN ?_ _) | (with_reducible refine Kd.C_drew ?_))); (case side4 => exact zy.out); (case side5 => repeat (first | exact (Kd.C_below zp.out HB.out) | (with_reducible refine Kd.C_alloc ?_ _) | (with_reducible refine Kd.C_drewN ?_ _) | (with_reducible refine Kd.C_drew ?_))); (case side6 => exact zz.out); rintro e w35 ⟨rfl, hb⟩; refine ⟨_, rfl, ?_⟩; have n0_ := Aside0.mk (blk_below (g := zb) (o := .cells #[.int .i64 a0_0, .slice A0_1 l0_1.length c0_1, .slice A0_2 l0_2.length c0_2, .slice A0_3 l0_3.length c0_3, .int .i64 a0_4, .int .i64 a0_5, .int .i64 a0_6, .int .i64 a0_7] 27 (0, 0)) (by (with_reducible repeat (first | refine bN ?_ _ | refine bD ?_ | refine bA ?_ _)); exact za.out) hb); have n1_ := Aside0.mk (below_step (by repeat (first | (with_reducible first | exact HB.out | apply wA | apply wN | apply wD | refine wS ?_ zc.out) | exact HB.out)) hb); clear za; clear HB; have za := n0_; have HB := n1_; clear n0_ n1_; (try clear hb); (try clear hb2); (try clear hk); (try clear hi); have zbb : w35.cell? ⟨zb, 0, none⟩ = some (.int .i64 a0_0) := (blk_cell za.out 0).trans rfl; have zbc : w35.cell? ⟨zb, 1, none⟩ = some (.slice A0_1 l0_1.length c0_1) := (blk_cell za.out 1).trans rfl; have zbd : w35.cell? ⟨zb, 2, none⟩ = some (.slice A0_2 l0_2.length c0_2) := (blk_cell za.out 2).trans rfl; have zbe : w35.cell? ⟨zb, 3, none⟩ = some (.slice A0_3 l0_3.length c0_3) := (blk_cell za.out 3).trans rfl; have zbf : w35.cell? ⟨zb, 4, none⟩ = some (.int .i64 a0_4) := (blk_cell za.out 4).trans rfl; have zbg : w35.cell? ⟨zb, 5, none⟩ = some (.int .i64 a0_5) := (blk_cell za.out 5).trans rfl; have zbh : w35.cell? ⟨zb, 6, none⟩ = some (.int .i64 a0_6) := (blk_cell za.out 6).trans rfl; have zbi : w35.cell? ⟨zb, 7, none⟩ = some (.int .i64 a0_7) := (blk_cell za.out 7).trans rfl; have zbj := blk_frozen za.out 0; have zbk := blk_frozen za.out 1; have zbl := blk_frozen za.out 2; have zbm := blk_frozen za.out 3; have zbn := blk_frozen za.out 4; have zbo := blk_frozen za.out 5; have zbp := blk_frozen za.out 6; have zbq := blk_frozen za.out 7) | ((with_reducible refine gate_callee (f := 35) rfl ?_); refine goesL_ (some 17) rfl rfl Try.func35 (by kernel_rfl) rfl #[.slice none 0 0, .int .u64 (IntKind.u64.wrap (a0_0))] rfl (by (try simp only [List.map_toArray, List.map_cons, List.map_nil]); first | done | rfl | (simp only [List.length_drop, List.length_take]; rfl)) ?_; (refine (num_Put.calls k (fun k_ => some k_ = (.slice none 0 0 : Value).ownBlock) (.slice none 0 0) ([] : List Int) (IntKind.u64.wrap (a0_0)) t125 w _ ?side1 ?side2 A5.out).mono ?_); (case side1 => repeat (first | (with_reducible first | exact HB.out | apply wA | apply wN | apply wD | refine wS ?_ zc.out) | exact HB.out)); (case side2 => exact Kd.R_nil _ _ _ _ _); rintro e w37 ⟨v126, rfl, ho0, hb, hkp⟩; refine ⟨_, rfl, ?_⟩; have n0_ := Aside0.mk (blk_kept (by (with_reducible repeat (first | refine bN ?_ _ | refine bD ?_ | refine bA ?_ _)); exact za.out) hkp (fun hs_ => (fun e_ => by simp [Value.ownBlock] at e_) hs_)); have n1_ := Aside0.mk (Kd.R_mono (ok' := fun k_ => True) ho0 (fun k_ hk_ => trivial)); have n2_ := Aside0.mk (hb); clear za; clear HB; have za := n0_; have zg := n1_; have HB := n2_; clear n0_ n1_ n2_; (try clear hb); (try clear hkp); (try clear ho0); obtain ⟨Ao38, co38, eo38⟩ := Kd.R_slice zg.out; subst eo38) | ((with_reducible refine gate_callee (f := 35) rfl ?_); refine goesL_ (some 19) rfl rfl Try.func35 (by kernel_rfl) rfl #[.slice Ao38 t125.length co38, .int .u64 a1] rfl (by (try simp only [List.map_toArray, List.map_cons, List.map_nil]); first | done | rfl | (simp only [List.length_drop, List.length_take]; rfl)) ?_; (with_reducible refine (num_Put.calls k (fun k_ => some k_ = (.slice Ao38 t125.length co38 : Value).ownBlock) (.slice Ao38 t125.length co38) t125 a1 t128 w _ ?side1 ?side2 A6.out).mono ?_); (case side1 => repeat (first | (with_reducible first | exact HB.out | apply wA | apply wN | apply wD | refine wS ?_ zc.out) | exact HB.out)); (case side2 => exact Kd.R_tight rfl zg.out); rintro e w39 ⟨v129, rfl, ho0, hb, hkp⟩; refine ⟨_, rfl, ?_⟩; have n0_ := Aside0.mk (blk_kept (by (with_reducible repeat (first | refine bN ?_ _ | refine bD ?_ | refine bA ?_ _)); exact za.out) hkp (fun hs_ => (fun e_ => (Kd.R_ne zg.out za.out (by decide)) e_) hs_)); have n1_ := Aside0.mk (Kd.R_mono (ok' := fun k_ => True) ho0 (fun k_ hk_ => trivial)); have n2_ := Aside0.mk (hb); clear za; clear HB; clear zg; have za := n0_; have zf := n1_; have HB := n2_; clear n0_ n1_ n2_; (try clear hb); (try clear hkp); (try clear ho0); have zbr : w39.cell? ⟨zb, 0, none⟩ = some (.int .i64 a0_0) := (blk_cell za.out 0).trans rfl; have zbs : w39.cell? ⟨zb, 1, none⟩ = some (.slice A0_1 l0_1.length c0_1) := (blk_cell za.out 1).trans rfl; have zbt : w39.cell? ⟨zb, 2, none⟩ = some (.slice A0_2 l0_2.length c0_2) := (blk_cell za.out 2).trans rfl; have zbu : w39.cell? ⟨zb, 3, none⟩ = some (.slice A0_3 l0_3.length c0_3) := (blk_cell za.out 3).trans rfl; have zbv : w39.cell? ⟨zb, 4, none⟩ = some (.int .i64 a0_4) := (blk_cell za.out 4).trans rfl; have zbw : w39.cell? ⟨zb, 5, none⟩ = some (.int .i64 a0_5) := (blk_cell za.out 5).trans rfl; have zbx : w39.cell? ⟨zb, 6, none⟩ = some (.int .i64 a0_6) := (blk_cell za.out 6).trans rfl; have zby : w39.cell? ⟨zb, 7, none⟩ = some (.int .i64 a0_7) := (blk_cell za.out 7).trans rfl; have zbz := blk_frozen za.out 0; have zb0 := blk_frozen za.out 1; have zb1 := blk_frozen za.out 2; have zb2 := blk_frozen za.out 3; have zb3 := blk_frozen za.out 4; have zb4 := blk_frozen za.out 5; have zb5 := blk_frozen za.out 6; have zb6 := blk_frozen za.out 7; obtain ⟨Ao41, co41, eo41⟩ := Kd.R_slice zf.out; subst eo41) | ((with_reducible refine gate_callee (f := 35) rfl ?_); refine goesL_ (some 55) rfl rfl Try.func35 (by kernel_rfl) rfl #[.slice Ao41 t128.length co41, .int .u64 (IntKind.u64.wrap ((l0_3.length : Int)))] rfl (by (try simp only [List.map_toArray, List.map_cons, List.map_nil]); first | done | rfl | (simp only [List.length_drop, List.length_take]; rfl)) ?_; (with_reducible refine (num_Put.calls k (fun k_ => some k_ = (.slice Ao41 t128.length co41 : Value).ownBlock) (.slice Ao41 t128.length co41) t128 (IntKind.u64.wrap ((l0_3.length : Int))) t142 w _ ?side1 ?side2 A32.out).mono ?_); (case side1 => repeat (first | (with_reducible first | exact HB.out | apply wA | apply wN | apply wD | refine wS ?_ zc.out) | exact HB.out)); (case side2 => exact Kd.R_tight rfl zf.out); rintro e w42 ⟨v143, rfl, ho0, hb, hkp⟩; refine ⟨_, rfl, ?_⟩; have n0_ := Aside0.mk (blk_kept (by (with_reducible repeat (first | refine bN ?_ _ | refine bD ?_ | refine bA ?_ _)); exact za.out) hkp (fun hs_ => (fun e_ => (Kd.R_ne zf.out za.out (by decide)) e_) hs_)); have n1_ := Aside0.mk (Kd.R_mono (ok' := fun k_ => True) ho0 (fun k_ hk_ => trivial)); have n2_ := Aside0.mk (hb); clear za; clear HB; clear zf; have za := n0_; have zcp := n1_; have HB := n2_; clear n0_ n1_ n2_; (try clear hb); (try clear hkp); (try clear ho0); have zb7 : w42.cell? ⟨zb, 0, none⟩ = some (.int .i64 a0_0) := (blk_cell za.out 0).trans rfl; have zb8 : w42.cell? ⟨zb, 1, none⟩ = some (.slice A0_1 l0_1.length c0_1) := (blk_cell za.out 1).trans rfl; have zb9 : w42.cell? ⟨zb, 2, none⟩ = some (.slice A0_2 l0_2.length c0_2) := (blk_cell za.out 2).trans rfl; have zca : w42.cell? ⟨zb, 3, none⟩ = some (.slice A0_3 l0_3.length c0_3) := (blk_cell za.out 3).trans rfl; have zcb : w42.cell? ⟨zb, 4, none⟩ = some (.int .i64 a0_4) := (blk_cell za.out 4).trans rfl; have zcc : w42.cell? ⟨zb, 5, none⟩ = some (.int .i64 a0_5) := (blk_cell za.out 5).trans rfl; have zcd : w42.cell? ⟨zb, 6, none⟩ = some (.int .i64 a0_6) := (blk_cell za.out 6).trans rfl; have zce : w42.cell? ⟨zb, 7, none⟩ = some (.int .i64 a0_7) := (blk_cell za.out 7).trans rfl; have zcf := blk_frozen za.out 0; have zcg := blk_frozen za.out 1; have zch := blk_frozen za.out 2; have zci := blk_frozen za.out 3; have zcj := blk_frozen za.out 4; have zck := blk_frozen za.out 5; have zcl := blk_frozen za.out 6; have zcm := blk_frozen za.out 7))
    go_loopg [6, 59] k (fun kq v6 v59 w' => ∃ (zh : List Int) (zd : Int), v59 = .int .i64 zd ∧ Aside0 (page_Encode.l1 kq zh l0_3 (l0_3.length : Int) zd a0_0 l0_1 l0_2 l0_3 a0_4 a0_5 a0_6 a0_7 = some (r1, r2)) ∧ Aside0 (kq ≤ k) ∧ Aside0 (Kd.R (Kd.int .u8) 5 w' w.heap.size (fun _ => True) v6 zh) ∧ Aside0 (w'.heap[zb]? = some (.cells #[.int .i64 a0_0, (.slice A0_1 l0_1.length c0_1), (.slice A0_2 l0_2.length c0_2), (.slice A0_3 l0_3.length c0_3), .int .i64 a0_4, .int .i64 a0_5, .int .i64 a0_6, .int .i64 a0_7] 27 (0, 0))) ∧ Aside0 (Below w.heap.size w w'))
    case atStart => exact ⟨(t142), (0), (by first | rfl | (simp; done) | (simp [*]; done)), H', ⟨Nat.le_refl _⟩, ⟨by (with_reducible repeat (first | apply Kd.R_alloc | apply Kd.R_drewN | apply Kd.R_drew)); exact zcp.out⟩, ⟨by (with_reducible repeat (first | refine bN ?_ _ | refine bD ?_ | refine bA ?_ _)); exact za.out⟩, ⟨by repeat (first | (with_reducible first | exact HB.out | apply wA | apply wN | apply wD | refine wS ?_ zc.out) | exact HB.out)⟩⟩
    case round =>
     clear H'
     (try clear c1); (try clear p1); (try clear q1); (try clear hx1); (try clear c2); (try clear p2); (try clear c3); (try clear c4); (try clear p6); (try clear c7); (try clear c7b0); (try clear c7b1); (try clear p13); (try clear q13); (try clear zhr); (try clear c16); (try clear c17); (try clear c20); (try clear c20b0); (try clear c21); (try clear c21b0); (try clear c22); (try clear c22b0); (try clear c24); (try clear c24b0); (try clear c31); (try clear c31b0); (try clear c31b1); (try clear c35); (try clear c36); (try clear yj yk yl ym yn yo yp yq); (try clear yz ja jb jc jd je jf jg); (try clear jp jq jr js jt ju jv jw); (try clear zaf zag zah zai zaj zak zal zam); (try clear zav zaw zax zay zaz za0 za1 za2); (try clear zbb zbc zbd zbe zbf zbg zbh zbi); (try clear zbr zbs zbt zbu zbv zbw zbx zby); (try clear zb7 zb8 zb9 zca zcb zcc zcd zce); (try clear yr ys yt yu yv yw yx yy); (try clear jh ji jj jk jl jm jn jo); (try clear jx jy jz zaa zab zac zad zae); (try clear zan zao zap zaq zar zas zat zau); (try clear za3 za4 za5 za6 za7 za8 za9 zba); (try clear zbj zbk zbl zbm zbn zbo zbp zbq); (try clear zbz zb0 zb1 zb2 zb3 zb4 zb5 zb6); (try clear zcf zcg zch zci zcj zck zcl zcm); (try clear ya); (try clear zn); (try clear p134); (try clear p138); (try clear p2); (try clear q134); (try clear q138)
     obtain ⟨zh, zd, rfl, HA, HK1, zi, za, HB⟩ := hrel
     cases gk with
     | zero => exact absurd HA.out (by simp [page_Encode.l1])
     | succ k1 =>
      have H := HA.out
      clear HA
      simp only [page_Encode.l1] at H
      by_cases c44 : zd < (l0_3.length : Int)
      ·rw [if_pos c44] at H
       have c44b0 : decide (zd < (l0_3.length : Int)) = true := decide_eq_true c44
       clear c44
       by_cases c45 : 0 ≤ zd
       ·rw [if_pos c45] at H
        have c45b0 : decide (0 ≤ zd) = true := decide_eq_true c45
        clear c45
        by_cases c46 : zd < (l0_3.length : Int)
        ·rw [if_pos c46] at H
         have c46b0 : decide (zd < (l0_3.length : Int)) = true := decide_eq_true c46
         clear c46
         by_cases c47 : zd > 0
         ·rw [if_pos c47] at H
          have c47b0 : decide (0 < zd) = true := decide_eq_true c47
          clear c47
          obtain ⟨zj, ye⟩ : ∃ j_ : Int, (wrap64 (zd - 1)) = j_ := ⟨_, rfl⟩
          replace H : (if 0 ≤ (zj) then (if (zj) < (l0_1.length : Int) then ((num_Text.f k1 zh (rdOf ByteArray.empty l0_1 (zj))).bind fun t147 => ((num_Put.f k1 t147 (IntKind.u64.wrap (rd l0_3 zd))).bind fun t150 => (page_Encode.l1 k1 t150 l0_3 (l0_3.length : Int) (wrap64 (zd + 1)) a0_0 l0_1 l0_2 l0_3 a0_4 a0_5 a0_6 a0_7))) else (none)) else (none)) = some (r1, r2) := by first | (rw [ye] at H; exact H) | (simp only [ye] at H ⊢; exact H)
          have zhq : (IntKind.i64.wrap (zd - 1)) = zj := (i64_w _).trans ye
          by_cases c49 : 0 ≤ (zj)
          ·rw [if_pos c49] at H
           have c49b0 : decide (0 ≤ (zj)) = true := decide_eq_true c49
           clear c49
           by_cases c50 : (zj) < (l0_1.length : Int)
           ·rw [if_pos c50] at H
            have c50b0 : decide ((zj) < (l0_1.length : Int)) = true := decide_eq_true c50
            clear c50
            replace H := Option.bind_eq_some_iff.mp H
            obtain ⟨t147, A510, H⟩ := H
            replace H : ((num_Put.f k1 t147 (IntKind.u64.wrap (rd l0_3 zd))).bind fun t150 => (page_Encode.l1 k1 t150 l0_3 (l0_3.length : Int) (wrap64 (zd + 1)) a0_0 l0_1 l0_2 l0_3 a0_4 a0_5 a0_6 a0_7)) = some (r1, r2) := H
            have A51 := Aside0.mk A510
            clear A510
            replace H := Option.bind_eq_some_iff.mp H
            obtain ⟨t150, A520, H⟩ := H
            replace H : (page_Encode.l1 k1 t150 l0_3 (l0_3.length : Int) (wrap64 (zd + 1)) a0_0 l0_1 l0_2 l0_3 a0_4 a0_5 a0_6 a0_7) = some (r1, r2) := H
            have A52 := Aside0.mk A520
            clear A520
            have H' := Aside0.mk H
            clear H
            have p145 : 0 ≤ (zd : Int) := of_decide_eq_true (by first | (with_reducible assumption) | assumption)
            have q145 : zd < (l0_3.length : Int) := of_decide_eq_true (by first | (with_reducible assumption) | assumption)
            obtain ⟨ad145, e145, zk⟩ := Kd.at_int zp.out zd p145 q145
            cases e145
            replace zk := (HB.out.cell (World.block_lt_of_cell? w _ zk)).trans zk
            replace p145 := eq_true p145
            replace q145 := eq_true q145
            obtain ⟨zdq, zdr, zds, zdt, zdu, zdv, zdw, zdx⟩ := cells8 (w := wr) za.out
            obtain ⟨zdy, zdz, zd0, zd1, zd2, zd3, zd4, zd5⟩ := frozen8 za.out
            have p146 : 0 ≤ ((zj) : Int) := of_decide_eq_true (by first | (with_reducible assumption) | assumption)
            have q146 : (zj) < (l0_1.length : Int) := of_decide_eq_true (by first | (with_reducible assumption) | assumption)
            obtain ⟨ad146, e146, yc⟩ := Kd.at_string zo.out (zj) p146 q146
            cases e146
            replace yc := (HB.out.cell (World.block_lt_of_cell? w _ yc)).trans yc
            replace p146 := eq_true p146
            replace q146 := eq_true q146
            obtain ⟨Ao54, co54, eo54⟩ := Kd.R_slice zi.out
            subst eo54
            go_wp2_with (first | ((with_reducible refine gate_callee (f := 36) rfl ?_); refine goesL_ (some 73) rfl rfl Try.func36 (by kernel_rfl) rfl #[.slice Ao54 zh.length co54, .string (rdOf ByteArray.empty l0_1 (zj))] rfl (by (try simp only [List.map_toArray, List.map_cons, List.map_nil]); first | done | (simp only [ye]; rfl) | rfl | (simp only [List.length_drop, List.length_take]; rfl)) ?_; (with_reducible refine (num_Text.calls k1 (fun k_ => some k_ = (.slice Ao54 zh.length co54 : Value).ownBlock) (.slice Ao54 zh.length co54) zh (rdOf ByteArray.empty l0_1 (zj)) t147 w _ ?side1 ?side2 A51.out).mono ?_); (case side1 => repeat (first | (with_reducible first | exact HB.out | apply wA | apply wN | apply wD | refine wS ?_ zc.out) | exact HB.out)); (case side2 => exact Kd.R_tight rfl zi.out); rintro e w55 ⟨v148, rfl, ho0, hb, hkp⟩; refine ⟨_, rfl, ?_⟩; have n0_ := Aside0.mk (blk_kept (by (with_reducible repeat (first | refine bN ?_ _ | refine bD ?_ | refine bA ?_ _)); exact za.out) hkp (fun hs_ => (fun e_ => (Kd.R_ne zi.out za.out (by decide)) e_) hs_)); have n1_ := Aside0.mk (Kd.R_mono (ok' := fun k_ => True) ho0 (fun k_ hk_ => trivial)); have n2_ := Aside0.mk (hb); clear za; clear HB; clear zi; have za := n0_; have yf := n1_; have HB := n2_; clear n0_ n1_ n2_; (try clear hb); (try clear hkp); (try clear ho0); obtain ⟨Ao56, co56, eo56⟩ := Kd.R_slice yf.out; subst eo56) | ((with_reducible refine gate_callee (f := 35) rfl ?_); refine goesL_ (some 77) rfl rfl Try.func35 (by kernel_rfl) rfl #[.slice Ao56 t147.length co56, .int .u64 (IntKind.u64.wrap (rd l0_3 zd))] rfl (by (try simp only [List.map_toArray, List.map_cons, List.map_nil]); first | done | rfl | (simp only [List.length_drop, List.length_take]; rfl)) ?_; (with_reducible refine (num_Put.calls k1 (fun k_ => some k_ = (.slice Ao56 t147.length co56 : Value).ownBlock) (.slice Ao56 t147.length co56) t147 (IntKind.u64.wrap (rd l0_3 zd)) t150 w _ ?side1 ?side2 A52.out).mono ?_); (case side1 => repeat (first | (with_reducible first | exact HB.out | apply wA | apply wN | apply wD | refine wS ?_ zc.out) | exact HB.out)); (case side2 => exact Kd.R_tight rfl yf.out); rintro e w57 ⟨v151, rfl, ho0, hb, hkp⟩; refine ⟨_, rfl, ?_⟩; have n0_ := Aside0.mk (blk_kept (by (with_reducible repeat (first | refine bN ?_ _ | refine bD ?_ | refine bA ?_ _)); exact za.out) hkp (fun hs_ => (fun e_ => (Kd.R_ne yf.out za.out (by decide)) e_) hs_)); have n1_ := Aside0.mk (Kd.R_mono (ok' := fun k_ => True) ho0 (fun k_ hk_ => trivial)); have n2_ := Aside0.mk (hb); clear za; clear HB; clear yf; have za := n0_; have zcq := n1_; have HB := n2_; clear n0_ n1_ n2_; (try clear hb); (try clear hkp); (try clear ho0)))
            go_roundg k1
            case measure => have := HK1.out; omega
            case rel => exact ⟨(t150), (wrap64 (zd + 1)), (by first | rfl | (simp; done) | (simp [*]; done)), H', ⟨by have := HK1.out; omega⟩, ⟨by (with_reducible repeat (first | apply Kd.R_alloc | apply Kd.R_drewN | apply Kd.R_drew)); exact zcq.out⟩, ⟨by (with_reducible repeat (first | refine bN ?_ _ | refine bD ?_ | refine bA ?_ _)); exact za.out⟩, ⟨by repeat (first | (with_reducible first | exact HB.out | apply wA | apply wN | apply wD | refine wS ?_ zc.out) | exact HB.out)⟩⟩
           ·rw [if_neg c50] at H
            exact absurd H (by simp)
          ·rw [if_neg c49] at H
           exact absurd H (by simp)
         ·rw [if_neg c47] at H
          have c47b0 : decide (0 < zd) = false := decide_eq_false c47
          clear c47
          replace H := Option.bind_eq_some_iff.mp H
          obtain ⟨t153, A580, H⟩ := H
          replace H : (page_Encode.l1 k1 t153 l0_3 (l0_3.length : Int) (wrap64 (zd + 1)) a0_0 l0_1 l0_2 l0_3 a0_4 a0_5 a0_6 a0_7) = some (r1, r2) := H
          have A58 := Aside0.mk A580
          clear A580
          have H' := Aside0.mk H
          clear H
          have p145 : 0 ≤ (zd : Int) := of_decide_eq_true (by first | (with_reducible assumption) | assumption)
          have q145 : zd < (l0_3.length : Int) := of_decide_eq_true (by first | (with_reducible assumption) | assumption)
          obtain ⟨ad145, e145, zk⟩ := Kd.at_int zp.out zd p145 q145
          cases e145
          replace zk := (HB.out.cell (World.block_lt_of_cell? w _ zk)).trans zk
          replace p145 := eq_true p145
          replace q145 := eq_true q145
          obtain ⟨Ao59, co59, eo59⟩ := Kd.R_slice zi.out
          subst eo59
          go_wp2_with (first | ((with_reducible refine gate_callee (f := 35) rfl ?_); refine goesL_ (some 77) rfl rfl Try.func35 (by kernel_rfl) rfl #[.slice Ao59 zh.length co59, .int .u64 (IntKind.u64.wrap (rd l0_3 zd))] rfl (by (try simp only [List.map_toArray, List.map_cons, List.map_nil]); first | done | rfl | (simp only [List.length_drop, List.length_take]; rfl)) ?_; (with_reducible refine (num_Put.calls k1 (fun k_ => some k_ = (.slice Ao59 zh.length co59 : Value).ownBlock) (.slice Ao59 zh.length co59) zh (IntKind.u64.wrap (rd l0_3 zd)) t153 w _ ?side1 ?side2 A58.out).mono ?_); (case side1 => repeat (first | (with_reducible first | exact HB.out | apply wA | apply wN | apply wD | refine wS ?_ zc.out) | exact HB.out)); (case side2 => exact Kd.R_tight rfl zi.out); rintro e w60 ⟨v154, rfl, ho0, hb, hkp⟩; refine ⟨_, rfl, ?_⟩; have n0_ := Aside0.mk (blk_kept (by (with_reducible repeat (first | refine bN ?_ _ | refine bD ?_ | refine bA ?_ _)); exact za.out) hkp (fun hs_ => (fun e_ => (Kd.R_ne zi.out za.out (by decide)) e_) hs_)); have n1_ := Aside0.mk (Kd.R_mono (ok' := fun k_ => True) ho0 (fun k_ hk_ => trivial)); have n2_ := Aside0.mk (hb); clear za; clear HB; clear zi; have za := n0_; have zcr := n1_; have HB := n2_; clear n0_ n1_ n2_; (try clear hb); (try clear hkp); (try clear ho0)))
          go_roundg k1
          case measure => have := HK1.out; omega
          case rel => exact ⟨(t153), (wrap64 (zd + 1)), (by first | rfl | (simp; done) | (simp [*]; done)), H', ⟨by have := HK1.out; omega⟩, ⟨by (with_reducible repeat (first | apply Kd.R_alloc | apply Kd.R_drewN | apply Kd.R_drew)); exact zcr.out⟩, ⟨by (with_reducible repeat (first | refine bN ?_ _ | refine bD ?_ | refine bA ?_ _)); exact za.out⟩, ⟨by repeat (first | (with_reducible first | exact HB.out | apply wA | apply wN | apply wD | refine wS ?_ zc.out) | exact HB.out)⟩⟩
        ·rw [if_neg c46] at H
         exact absurd H (by simp)
       ·rw [if_neg c45] at H
        exact absurd H (by simp)
      ·rw [if_neg c44] at H
       have c44b0 : decide (zd < (l0_3.length : Int)) = false := decide_eq_false c44
       clear c44
       simp only [Option.some.injEq, Prod.mk.injEq] at H
       obtain ⟨rfl, rfl⟩ := H
       go_wp2
       go_ret2
       exact ⟨_, by first | rfl | (simp [errW_none, errW_some] <;> rfl) | (simp [*, errW_none, errW_some] <;> rfl), by (with_reducible repeat (first | apply Kd.R_alloc | apply Kd.R_drewN | apply Kd.R_drew)); exact zi.out, by repeat (first | (with_reducible first | exact HB.out | apply wA | apply wN | apply wD | refine wS ?_ zc.out) | exact HB.out)⟩
   ·rw [if_neg c31] at H
    have c31b0 : (a0_0 == 2) = false := beq_eq_false_iff_ne.mpr c31
    have c31b1 : (a0_0 != 2) = true := bne_iff_ne.mpr c31
    by_cases c61 : a0_0 = 3
    ·rw [if_pos c61] at H
     have c61b0 : (a0_0 == 3) = true := beq_iff_eq.mpr c61
     have c61b1 : (a0_0 != 3) = false := bne_eq_false_iff_eq.mpr c61
     clear c61
     replace H := Option.bind_eq_some_iff.mp H
     obtain ⟨t156, A620, H⟩ := H
     replace H : ((num_Put.f k t156 (IntKind.u64.wrap (a0_5))).bind fun t159 => ((num_Put.f k t159 (IntKind.u64.wrap (a0_6))).bind fun t162 => ((num_Put.f k t162 (IntKind.u64.wrap (a0_7))).bind fun t165 => (some (t165, 0))))) = some (r1, r2) := H
     have A62 := Aside0.mk A620
     clear A620
     replace H := Option.bind_eq_some_iff.mp H
     obtain ⟨t159, A630, H⟩ := H
     replace H : ((num_Put.f k t159 (IntKind.u64.wrap (a0_6))).bind fun t162 => ((num_Put.f k t162 (IntKind.u64.wrap (a0_7))).bind fun t165 => (some (t165, 0)))) = some (r1, r2) := H
     have A63 := Aside0.mk A630
     clear A630
     replace H := Option.bind_eq_some_iff.mp H
     obtain ⟨t162, A640, H⟩ := H
     replace H : ((num_Put.f k t162 (IntKind.u64.wrap (a0_7))).bind fun t165 => (some (t165, 0))) = some (r1, r2) := H
     have A64 := Aside0.mk A640
     clear A640
     replace H := Option.bind_eq_some_iff.mp H
     obtain ⟨t165, A650, H⟩ := H
     replace H : (some (t165, 0)) = some (r1, r2) := H
     have A65 := Aside0.mk A650
     clear A650
     simp only [Option.some.injEq, Prod.mk.injEq] at H
     obtain ⟨rfl, rfl⟩ := H
     go_enter Try.func16, Try.ntmps16
     try go_wp2_with (first | ((with_reducible refine gate_dst (N := 2) rfl ?_); refine box_event ?hg (N := 2) ?hd (cs := #[.int .i64 a0_0, .slice A0_1 l0_1.length c0_1, .slice A0_2 l0_2.length c0_2, .slice A0_3 l0_3.length c0_3, .int .i64 a0_4, .int .i64 a0_5, .int .i64 a0_6, .int .i64 a0_7]) (t := 27) ?hr ?_; (case hd => rfl); (case hg => rfl); (case hr => first | (go_simp; done) | (go_simp; rfl)); intro zb hg w66 hbox hb; have n0_ := Aside0.mk (below_step (by repeat (first | (with_reducible first | exact HB.out | apply wA | apply wN | apply wD) | exact HB.out)) hb); have n1_ := Aside0.mk (hbox); have n2_ := Aside0.mk ((by rw [hg]; exact (below_size (by repeat (first | (with_reducible first | exact HB.out | apply wA | apply wN | apply wD) | exact HB.out))) : w.heap.size ≤ zb)); have n3_ := Aside0.mk ((by rw [hg]; exact (below_size (by repeat (first | (with_reducible first | exact HB.out | apply wA | apply wN | apply wD) | exact HB.out))) : w.heap.size ≤ zb)); clear HB; have HB := n0_; have za := n1_; have yb := n2_; have zc := n3_; clear n0_ n1_ n2_ n3_; clear hb hbox hg; have zd6 : w66.cell? ⟨zb, 0, none⟩ = some (.int .i64 a0_0) := (blk_cell za.out 0).trans rfl; have zd7 : w66.cell? ⟨zb, 1, none⟩ = some (.slice A0_1 l0_1.length c0_1) := (blk_cell za.out 1).trans rfl; have zd8 : w66.cell? ⟨zb, 2, none⟩ = some (.slice A0_2 l0_2.length c0_2) := (blk_cell za.out 2).trans rfl; have zd9 : w66.cell? ⟨zb, 3, none⟩ = some (.slice A0_3 l0_3.length c0_3) := (blk_cell za.out 3).trans rfl; have zea : w66.cell? ⟨zb, 4, none⟩ = some (.int .i64 a0_4) := (blk_cell za.out 4).trans rfl; have zeb : w66.cell? ⟨zb, 5, none⟩ = some (.int .i64 a0_5) := (blk_cell za.out 5).trans rfl; have zec : w66.cell? ⟨zb, 6, none⟩ = some (.int .i64 a0_6) := (blk_cell za.out 6).trans rfl; have zed : w66.cell? ⟨zb, 7, none⟩ = some (.int .i64 a0_7) := (blk_cell za.out 7).trans rfl; have zee := blk_frozen za.out 0; have zef := blk_frozen za.out 1; have zeg := blk_frozen za.out 2; have zeh := blk_frozen za.out 3; have zei := blk_frozen za.out 4; have zej := blk_frozen za.out 5; have zek := blk_frozen za.out 6; have zel := blk_frozen za.out 7) | ((with_reducible refine gate_callee (f := 17) rfl ?_); refine goesL_ (some 12) rfl rfl Try.func17 (by kernel_rfl) rfl #[.agg #[.int .i64 a0_0, .slice A0_1 l0_1.length c0_1, .slice A0_2 l0_2.length c0_2, .slice A0_3 l0_3.length c0_3, .int .i64 a0_4, .int .i64 a0_5, .int .i64 a0_6, .int .i64 a0_7]] rfl (by (try simp only [List.map_toArray, List.map_cons, List.map_nil]); first | done | rfl | (simp only [List.length_drop, List.length_take]; rfl)) ?_; (with_reducible refine (page_Page_Right.calls k a0_0 _ _ l0_1 _ _ l0_2 _ _ l0_3 a0_4 a0_5 a0_6 a0_7 true _ ?side1 ?side2 ?side3 ?side4 ?side5 ?side6 A3.out).mono ?_); (case side1 => repeat (first | exact (Kd.C_below zo.out HB.out) | (with_reducible refine Kd.C_alloc ?_ _) | (with_reducible refine Kd.C_drewN ?_ _) | (with_reducible refine Kd.C_drew ?_))); (case side2 => exact zx.out); (case side3 => repeat (first | exact (Kd.C_below zq.out HB.out) | (with_reducible refine Kd.C_alloc ?_ _) | (with_reducible refine Kd.C_drewN ?_ _) | (with_reducible refine Kd.C_drew ?_))); (case side4 => exact zy.out); (case side5 => repeat (first | exact (Kd.C_below zp.out HB.out) | (with_reducible refine Kd.C_alloc ?_ _) | (with_reducible refine Kd.C_drewN ?_ _) | (with_reducible refine Kd.C_drew ?_))); (case side6 => exact zz.out); rintro e w68 ⟨rfl, hb⟩; refine ⟨_, rfl, ?_⟩; have n0_ := Aside0.mk (blk_below (g := zb) (o := .cells #[.int .i64 a0_0, .slice A0_1 l0_1.length c0_1, .slice A0_2 l0_2.length c0_2, .slice A0_3 l0_3.length c0_3, .int .i64 a0_4, .int .i64 a0_5, .int .i64 a0_6, .int .i64 a0_7] 27 (0, 0)) (by (with_reducible repeat (first | refine bN ?_ _ | refine bD ?_ | refine bA ?_ _)); exact za.out) hb); have n1_ := Aside0.mk (below_step (by repeat (first | (with_reducible first | exact HB.out | apply wA | apply wN | apply wD | refine wS ?_ zc.out) | exact HB.out)) hb); clear za; clear HB; have za := n0_; have HB := n1_; clear n0_ n1_; (try clear hb); (try clear hb2); (try clear hk); (try clear hi); have zem : w68.cell? ⟨zb, 0, none⟩ = some (.int .i64 a0_0) := (blk_cell za.out 0).trans rfl; have zen : w68.cell? ⟨zb, 1, none⟩ = some (.slice A0_1 l0_1.length c0_1) := (blk_cell za.out 1).trans rfl; have zeo : w68.cell? ⟨zb, 2, none⟩ = some (.slice A0_2 l0_2.length c0_2) := (blk_cell za.out 2).trans rfl; have zep : w68.cell? ⟨zb, 3, none⟩ = some (.slice A0_3 l0_3.length c0_3) := (blk_cell za.out 3).trans rfl; have zeq : w68.cell? ⟨zb, 4, none⟩ = some (.int .i64 a0_4) := (blk_cell za.out 4).trans rfl; have zer : w68.cell? ⟨zb, 5, none⟩ = some (.int .i64 a0_5) := (blk_cell za.out 5).trans rfl; have zes : w68.cell? ⟨zb, 6, none⟩ = some (.int .i64 a0_6) := (blk_cell za.out 6).trans rfl; have zet : w68.cell? ⟨zb, 7, none⟩ = some (.int .i64 a0_7) := (blk_cell za.out 7).trans rfl; have zeu := blk_frozen za.out 0; have zev := blk_frozen za.out 1; have zew := blk_frozen za.out 2; have zex := blk_frozen za.out 3; have zey := blk_frozen za.out 4; have zez := blk_frozen za.out 5; have ze0 := blk_frozen za.out 6; have ze1 := blk_frozen za.out 7) | ((with_reducible refine gate_callee (f := 35) rfl ?_); refine goesL_ (some 17) rfl rfl Try.func35 (by kernel_rfl) rfl #[.slice none 0 0, .int .u64 (IntKind.u64.wrap (a0_0))] rfl (by (try simp only [List.map_toArray, List.map_cons, List.map_nil]); first | done | rfl | (simp only [List.length_drop, List.length_take]; rfl)) ?_; (refine (num_Put.calls k (fun k_ => some k_ = (.slice none 0 0 : Value).ownBlock) (.slice none 0 0) ([] : List Int) (IntKind.u64.wrap (a0_0)) t125 w _ ?side1 ?side2 A5.out).mono ?_); (case side1 => repeat (first | (with_reducible first | exact HB.out | apply wA | apply wN | apply wD | refine wS ?_ zc.out) | exact HB.out)); (case side2 => exact Kd.R_nil _ _ _ _ _); rintro e w70 ⟨v126, rfl, ho0, hb, hkp⟩; refine ⟨_, rfl, ?_⟩; have n0_ := Aside0.mk (blk_kept (by (with_reducible repeat (first | refine bN ?_ _ | refine bD ?_ | refine bA ?_ _)); exact za.out) hkp (fun hs_ => (fun e_ => by simp [Value.ownBlock] at e_) hs_)); have n1_ := Aside0.mk (Kd.R_mono (ok' := fun k_ => True) ho0 (fun k_ hk_ => trivial)); have n2_ := Aside0.mk (hb); clear za; clear HB; have za := n0_; have zg := n1_; have HB := n2_; clear n0_ n1_ n2_; (try clear hb); (try clear hkp); (try clear ho0); obtain ⟨Ao71, co71, eo71⟩ := Kd.R_slice zg.out; subst eo71) | ((with_reducible refine gate_callee (f := 35) rfl ?_); refine goesL_ (some 19) rfl rfl Try.func35 (by kernel_rfl) rfl #[.slice Ao71 t125.length co71, .int .u64 a1] rfl (by (try simp only [List.map_toArray, List.map_cons, List.map_nil]); first | done | rfl | (simp only [List.length_drop, List.length_take]; rfl)) ?_; (with_reducible refine (num_Put.calls k (fun k_ => some k_ = (.slice Ao71 t125.length co71 : Value).ownBlock) (.slice Ao71 t125.length co71) t125 a1 t128 w _ ?side1 ?side2 A6.out).mono ?_); (case side1 => repeat (first | (with_reducible first | exact HB.out | apply wA | apply wN | apply wD | refine wS ?_ zc.out) | exact HB.out)); (case side2 => exact Kd.R_tight rfl zg.out); rintro e w72 ⟨v129, rfl, ho0, hb, hkp⟩; refine ⟨_, rfl, ?_⟩; have n0_ := Aside0.mk (blk_kept (by (with_reducible repeat (first | refine bN ?_ _ | refine bD ?_ | refine bA ?_ _)); exact za.out) hkp (fun hs_ => (fun e_ => (Kd.R_ne zg.out za.out (by decide)) e_) hs_)); have n1_ := Aside0.mk (Kd.R_mono (ok' := fun k_ => True) ho0 (fun k_ hk_ => trivial)); have n2_ := Aside0.mk (hb); clear za; clear HB; clear zg; have za := n0_; have zf := n1_; have HB := n2_; clear n0_ n1_ n2_; (try clear hb); (try clear hkp); (try clear ho0); have ze2 : w72.cell? ⟨zb, 0, none⟩ = some (.int .i64 a0_0) := (blk_cell za.out 0).trans rfl; have ze3 : w72.cell? ⟨zb, 1, none⟩ = some (.slice A0_1 l0_1.length c0_1) := (blk_cell za.out 1).trans rfl; have ze4 : w72.cell? ⟨zb, 2, none⟩ = some (.slice A0_2 l0_2.length c0_2) := (blk_cell za.out 2).trans rfl; have ze5 : w72.cell? ⟨zb, 3, none⟩ = some (.slice A0_3 l0_3.length c0_3) := (blk_cell za.out 3).trans rfl; have ze6 : w72.cell? ⟨zb, 4, none⟩ = some (.int .i64 a0_4) := (blk_cell za.out 4).trans rfl; have ze7 : w72.cell? ⟨zb, 5, none⟩ = some (.int .i64 a0_5) := (blk_cell za.out 5).trans rfl; have ze8 : w72.cell? ⟨zb, 6, none⟩ = some (.int .i64 a0_6) := (blk_cell za.out 6).trans rfl; have ze9 : w72.cell? ⟨zb, 7, none⟩ = some (.int .i64 a0_7) := (blk_cell za.out 7).trans rfl; have zfa := blk_frozen za.out 0; have zfb := blk_frozen za.out 1; have zfc := blk_frozen za.out 2; have zfd := blk_frozen za.out 3; have zfe := blk_frozen za.out 4; have zff := blk_frozen za.out 5; have zfg := blk_frozen za.out 6; have zfh := blk_frozen za.out 7))
     have n0_ := Aside0.mk (Kd.R_drew zf.out)
     have n1_ := Aside0.mk (bD za.out)
     have n2_ := Aside0.mk (wD HB.out)
     clear zf za HB
     have zf := n0_
     have za := n1_
     have HB := n2_
     clear n0_ n1_ n2_
     obtain ⟨Ao75, co75, eo75⟩ := Kd.R_slice zf.out
     (first | subst eo75 | (injection eo75 with f1_ f2_ f3_; have f4_ := f1_.symm; have f5_ := f3_.symm; clear f1_ f2_ f3_; subst f4_; subst f5_))
     refine start_ (n := 18) (S := fun w' => w'.cell? ⟨zb, 0, none⟩ = some (.int .i64 a0_0) ∧ w'.cell? ⟨zb, 1, none⟩ = some (.slice A0_1 l0_1.length c0_1) ∧ w'.cell? ⟨zb, 2, none⟩ = some (.slice A0_2 l0_2.length c0_2) ∧ w'.cell? ⟨zb, 3, none⟩ = some (.slice A0_3 l0_3.length c0_3) ∧ w'.cell? ⟨zb, 4, none⟩ = some (.int .i64 a0_4) ∧ w'.cell? ⟨zb, 5, none⟩ = some (.int .i64 a0_5) ∧ w'.cell? ⟨zb, 6, none⟩ = some (.int .i64 a0_6) ∧ w'.cell? ⟨zb, 7, none⟩ = some (.int .i64 a0_7)) (ds := []) #[false, false, false, false, false, false, false, false, false, false, false, false, false, false, false, false, false, false] (by kernel_rfl) rfl rfl ⟨(blk_cell za.out 0).trans rfl, (blk_cell za.out 1).trans rfl, (blk_cell za.out 2).trans rfl, (blk_cell za.out 3).trans rfl, (blk_cell za.out 4).trans rfl, (blk_cell za.out 5).trans rfl, (blk_cell za.out 6).trans rfl, (blk_cell za.out 7).trans rfl⟩ (fun hHeld => ?_); refine with_tabW page_Encode.tab22 page_Encode.bits22 (fun HT_ HW_ => ?_)
     generalize w72.drew = w74 at zf za HB hHeld ⊢
     refine pure_ (i := 0) (N := some 81) (v := ?_) (a' := ?_) #[true, false, false, false, false, false, false, false, false, false, false, false, false, false, false, false, false, false] rfl rfl (any_of HT_.out (by kernel_rfl)) (fun _ _ _ h => h) (Or.inl ⟨by rfl, ?_⟩) ?_ ?_
     rotate_left
     ·intro w'
      go_simp
      with_reducible rfl
     rotate_left
     ·simp only [Act.put, List.setIfInBounds_toArray, List.set_cons_zero, List.set_cons_succ, i64_w, i32_w]
      rfl
     refine pure_ (i := 1) (N := some 82) (v := ?_) (a' := ?_) #[true, true, false, false, false, false, false, false, false, false, false, false, false, false, false, false, false, false] rfl rfl (any_of HT_.out (by kernel_rfl)) (fun _ _ _ h => h) (Or.inl ⟨by rfl, ?_⟩) ?_ ?_
     rotate_left
     ·intro w'
      go_simp
      with_reducible rfl
     rotate_left
     ·simp only [Act.put, List.setIfInBounds_toArray, List.set_cons_zero, List.set_cons_succ, i64_w, i32_w]
      rfl
     refine pure_ (i := 5) (N := some 86) (v := ?_) (a' := ?_) #[true, true, false, false, false, true, false, false, false, false, false, false, false, false, false, false, false, false] rfl rfl (any_of HT_.out (by kernel_rfl)) (fun _ _ _ h => h) (Or.inl ⟨by rfl, ?_⟩) ?_ ?_
     rotate_left
     ·intro w'
      go_simp
      with_reducible rfl
     rotate_left
     ·simp only [Act.put, List.setIfInBounds_toArray, List.set_cons_zero, List.set_cons_succ, i64_w, i32_w]
      rfl
     refine pure_ (i := 9) (N := some 90) (v := ?_) (a' := ?_) #[true, true, false, false, false, true, false, false, false, true, false, false, false, false, false, false, false, false] rfl rfl (any_of HT_.out (by kernel_rfl)) (fun _ _ _ h => h) (Or.inl ⟨by rfl, ?_⟩) ?_ ?_
     rotate_left
     ·intro w'
      go_simp
      with_reducible rfl
     rotate_left
     ·simp only [Act.put, List.setIfInBounds_toArray, List.set_cons_zero, List.set_cons_succ, i64_w, i32_w]
      rfl
     refine pure_ (i := 13) (N := some 94) (v := ?_) (a' := ?_) #[true, true, false, false, false, true, false, false, false, true, false, false, false, true, false, false, false, false] rfl rfl (any_of HT_.out (by kernel_rfl)) (fun _ _ _ h => h) (Or.inl ⟨by rfl, ?_⟩) ?_ ?_
     rotate_left
     ·intro w'
      go_simp
      with_reducible rfl
     rotate_left
     ·simp only [Act.put, List.setIfInBounds_toArray, List.set_cons_zero, List.set_cons_succ, i64_w, i32_w]
      rfl
     refine take_ (i := 2) (N := some 83) (v := ?_) (a' := ?_) #[true, true, true, false, false, true, false, false, false, true, false, false, false, true, false, false, false, false] rfl rfl (take_ofW HT_.out HW_.out (by kernel_rfl)) (fun _ _ _ h => h) (Or.inl ⟨by rfl, ?_⟩) hHeld ?_ ?_
     rotate_left
     ·rintro w' ⟨s0, s1, s2, s3, s4, s5, s6, s7⟩
      go_simp
      with_reducible rfl
     rotate_left
     ·simp only [Act.put, List.setIfInBounds_toArray, List.set_cons_zero, List.set_cons_succ, i64_w, i32_w]
      rfl
     refine pure_ (i := 3) (N := some 84) (v := ?_) (a' := ?_) #[true, true, true, true, false, true, false, false, false, true, false, false, false, true, false, false, false, false] rfl rfl (any_of HT_.out (by kernel_rfl)) (fun _ _ _ h => h) (Or.inl ⟨by rfl, ?_⟩) ?_ ?_
     rotate_left
     ·intro w'
      go_simp
      with_reducible rfl
     rotate_left
     ·simp only [Act.put, List.setIfInBounds_toArray, List.set_cons_zero, List.set_cons_succ, i64_w, i32_w]
      rfl
     refine take_ (i := 6) (N := some 87) (v := ?_) (a' := ?_) #[true, true, true, true, false, true, true, false, false, true, false, false, false, true, false, false, false, false] rfl rfl (take_ofW HT_.out HW_.out (by kernel_rfl)) (fun _ _ _ h => h) (Or.inl ⟨by rfl, ?_⟩) hHeld ?_ ?_
     rotate_left
     ·rintro w' ⟨s0, s1, s2, s3, s4, s5, s6, s7⟩
      go_simp
      with_reducible rfl
     rotate_left
     ·simp only [Act.put, List.setIfInBounds_toArray, List.set_cons_zero, List.set_cons_succ, i64_w, i32_w]
      rfl
     refine pure_ (i := 7) (N := some 88) (v := ?_) (a' := ?_) #[true, true, true, true, false, true, true, true, false, true, false, false, false, true, false, false, false, false] rfl rfl (any_of HT_.out (by kernel_rfl)) (fun _ _ _ h => h) (Or.inl ⟨by rfl, ?_⟩) ?_ ?_
     rotate_left
     ·intro w'
      go_simp
      with_reducible rfl
     rotate_left
     ·simp only [Act.put, List.setIfInBounds_toArray, List.set_cons_zero, List.set_cons_succ, i64_w, i32_w]
      rfl
     refine take_ (i := 10) (N := some 91) (v := ?_) (a' := ?_) #[true, true, true, true, false, true, true, true, false, true, true, false, false, true, false, false, false, false] rfl rfl (take_ofW HT_.out HW_.out (by kernel_rfl)) (fun _ _ _ h => h) (Or.inl ⟨by rfl, ?_⟩) hHeld ?_ ?_
     rotate_left
     ·rintro w' ⟨s0, s1, s2, s3, s4, s5, s6, s7⟩
      go_simp
      with_reducible rfl
     rotate_left
     ·simp only [Act.put, List.setIfInBounds_toArray, List.set_cons_zero, List.set_cons_succ, i64_w, i32_w]
      rfl
     refine pure_ (i := 11) (N := some 92) (v := ?_) (a' := ?_) #[true, true, true, true, false, true, true, true, false, true, true, true, false, true, false, false, false, false] rfl rfl (any_of HT_.out (by kernel_rfl)) (fun _ _ _ h => h) (Or.inl ⟨by rfl, ?_⟩) ?_ ?_
     rotate_left
     ·intro w'
      go_simp
      with_reducible rfl
     rotate_left
     ·simp only [Act.put, List.setIfInBounds_toArray, List.set_cons_zero, List.set_cons_succ, i64_w, i32_w]
      rfl
     refine take_ (i := 14) (N := some 95) (v := ?_) (a' := ?_) #[true, true, true, true, false, true, true, true, false, true, true, true, false, true, true, false, false, false] rfl rfl (take_ofW HT_.out HW_.out (by kernel_rfl)) (fun _ _ _ h => h) (Or.inl ⟨by rfl, ?_⟩) hHeld ?_ ?_
     rotate_left
     ·rintro w' ⟨s0, s1, s2, s3, s4, s5, s6, s7⟩
      go_simp
      with_reducible rfl
     rotate_left
     ·simp only [Act.put, List.setIfInBounds_toArray, List.set_cons_zero, List.set_cons_succ, i64_w, i32_w]
      rfl
     refine pure_ (i := 15) (N := some 96) (v := ?_) (a' := ?_) #[true, true, true, true, false, true, true, true, false, true, true, true, false, true, true, true, false, false] rfl rfl (any_of HT_.out (by kernel_rfl)) (fun _ _ _ h => h) (Or.inl ⟨by rfl, ?_⟩) ?_ ?_
     rotate_left
     ·intro w'
      go_simp
      with_reducible rfl
     rotate_left
     ·simp only [Act.put, List.setIfInBounds_toArray, List.set_cons_zero, List.set_cons_succ, i64_w, i32_w]
      rfl
     refine one_ (i := 4) (N := some 85) #[true, true, true, true, true, true, true, true, false, true, true, true, false, true, true, true, false, false] rfl rfl (one_of HT_.out (by kernel_rfl)) (by decide) (fun K hK => ?_)
     refine goes_ Try.func35 (by kernel_rfl) rfl #[.slice Ao75 t128.length co75, .int .u64 (IntKind.u64.wrap (a0_4))] (by rfl) rfl rfl (by (try simp only [List.map_toArray, List.map_cons, List.map_nil]); first | done | rfl | (simp only [List.length_drop, List.length_take]; rfl)) ?_
     with_reducible refine (num_Put.calls k (fun k_ => some k_ = (.slice Ao75 t128.length co75 : Value).ownBlock) (.slice Ao75 t128.length co75) t128 (IntKind.u64.wrap (a0_4)) t156 w _ ?side1 ?side2 A62.out).mono ?_
     (case side1 => repeat (first | (with_reducible first | exact HB.out | apply wA | apply wN | apply wD | refine wS ?_ zc.out) | exact HB.out))
     (case side2 => exact Kd.R_tight rfl zf.out)
     rintro e w76 ⟨v157, rfl, ho0, hb, hkp⟩
     refine ⟨_, rfl, ?_⟩
     have n0_ := Aside0.mk (blk_kept (by (with_reducible repeat (first | refine bN ?_ _ | refine bD ?_ | refine bA ?_ _)); exact za.out) hkp (fun hs_ => (fun e_ => (Kd.R_ne zf.out za.out (by decide)) e_) hs_))
     have n1_ := Aside0.mk (Kd.R_mono (ok' := fun k_ => True) ho0 (fun k_ hk_ => trivial))
     have n2_ := Aside0.mk (hb)
     clear za HB zf
     have za := n0_
     have yg := n1_
     have HB := n2_
     clear n0_ n1_ n2_
     (try clear hb)
     (try clear hkp)
     (try clear ho0)
     obtain ⟨Ao77, co77, eo77⟩ := Kd.R_slice yg.out
     (first | subst eo77 | (injection eo77 with f1_ f2_ f3_; have f4_ := f1_.symm; have f5_ := f3_.symm; clear f1_ f2_ f3_; subst f4_; subst f5_))
     refine hK.out _ _ ⟨(blk_cell za.out 0).trans rfl, (blk_cell za.out 1).trans rfl, (blk_cell za.out 2).trans rfl, (blk_cell za.out 3).trans rfl, (blk_cell za.out 4).trans rfl, (blk_cell za.out 5).trans rfl, (blk_cell za.out 6).trans rfl, (blk_cell za.out 7).trans rfl⟩ (fun hHeld => ?_)
     clear hK K
     refine norm_ (a' := ?_) ?_ ?_
     rotate_left
     ·show Act.put _ (some 85) _ = _
      simp only [Act.put, List.setIfInBounds_toArray, List.set_cons_zero, List.set_cons_succ, i64_w, i32_w]
      rfl
     refine one_ (i := 8) (N := some 89) #[true, true, true, true, true, true, true, true, true, true, true, true, false, true, true, true, false, false] rfl rfl (one_of HT_.out (by kernel_rfl)) (by decide) (fun K hK => ?_)
     refine goes_ Try.func35 (by kernel_rfl) rfl #[.slice Ao77 t156.length co77, .int .u64 (IntKind.u64.wrap (a0_5))] (by rfl) rfl rfl (by (try simp only [List.map_toArray, List.map_cons, List.map_nil]); first | done | rfl | (simp only [List.length_drop, List.length_take]; rfl)) ?_
     with_reducible refine (num_Put.calls k (fun k_ => some k_ = (.slice Ao77 t156.length co77 : Value).ownBlock) (.slice Ao77 t156.length co77) t156 (IntKind.u64.wrap (a0_5)) t159 w _ ?side1 ?side2 A63.out).mono ?_
     (case side1 => repeat (first | (with_reducible first | exact HB.out | apply wA | apply wN | apply wD | refine wS ?_ zc.out) | exact HB.out))
     (case side2 => exact Kd.R_tight rfl yg.out)
     rintro e w78 ⟨v160, rfl, ho0, hb, hkp⟩
     refine ⟨_, rfl, ?_⟩
     have n0_ := Aside0.mk (blk_kept (by (with_reducible repeat (first | refine bN ?_ _ | refine bD ?_ | refine bA ?_ _)); exact za.out) hkp (fun hs_ => (fun e_ => (Kd.R_ne yg.out za.out (by decide)) e_) hs_))
     have n1_ := Aside0.mk (Kd.R_mono (ok' := fun k_ => True) ho0 (fun k_ hk_ => trivial))
     have n2_ := Aside0.mk (hb)
     clear za HB yg
     have za := n0_
     have yh := n1_
     have HB := n2_
     clear n0_ n1_ n2_
     (try clear hb)
     (try clear hkp)
     (try clear ho0)
     obtain ⟨Ao79, co79, eo79⟩ := Kd.R_slice yh.out
     (first | subst eo79 | (injection eo79 with f1_ f2_ f3_; have f4_ := f1_.symm; have f5_ := f3_.symm; clear f1_ f2_ f3_; subst f4_; subst f5_))
     refine hK.out _ _ ⟨(blk_cell za.out 0).trans rfl, (blk_cell za.out 1).trans rfl, (blk_cell za.out 2).trans rfl, (blk_cell za.out 3).trans rfl, (blk_cell za.out 4).trans rfl, (blk_cell za.out 5).trans rfl, (blk_cell za.out 6).trans rfl, (blk_cell za.out 7).trans rfl⟩ (fun hHeld => ?_)
     clear hK K
     refine norm_ (a' := ?_) ?_ ?_
     rotate_left
     ·show Act.put _ (some 89) _ = _
      simp only [Act.put, List.setIfInBounds_toArray, List.set_cons_zero, List.set_cons_succ, i64_w, i32_w]
      rfl
     refine one_ (i := 12) (N := some 93) #[true, true, true, true, true, true, true, true, true, true, true, true, true, true, true, true, false, false] rfl rfl (one_of HT_.out (by kernel_rfl)) (by decide) (fun K hK => ?_)
     refine goes_ Try.func35 (by kernel_rfl) rfl #[.slice Ao79 t159.length co79, .int .u64 (IntKind.u64.wrap (a0_6))] (by rfl) rfl rfl (by (try simp only [List.map_toArray, List.map_cons, List.map_nil]); first | done | rfl | (simp only [List.length_drop, List.length_take]; rfl)) ?_
     with_reducible refine (num_Put.calls k (fun k_ => some k_ = (.slice Ao79 t159.length co79 : Value).ownBlock) (.slice Ao79 t159.length co79) t159 (IntKind.u64.wrap (a0_6)) t162 w _ ?side1 ?side2 A64.out).mono ?_
     (case side1 => repeat (first | (with_reducible first | exact HB.out | apply wA | apply wN | apply wD | refine wS ?_ zc.out) | exact HB.out))
     (case side2 => exact Kd.R_tight rfl yh.out)
     rintro e w80 ⟨v163, rfl, ho0, hb, hkp⟩
     refine ⟨_, rfl, ?_⟩
     have n0_ := Aside0.mk (blk_kept (by (with_reducible repeat (first | refine bN ?_ _ | refine bD ?_ | refine bA ?_ _)); exact za.out) hkp (fun hs_ => (fun e_ => (Kd.R_ne yh.out za.out (by decide)) e_) hs_))
     have n1_ := Aside0.mk (Kd.R_mono (ok' := fun k_ => True) ho0 (fun k_ hk_ => trivial))
     have n2_ := Aside0.mk (hb)
     clear za HB yh
     have za := n0_
     have yi := n1_
     have HB := n2_
     clear n0_ n1_ n2_
     (try clear hb)
     (try clear hkp)
     (try clear ho0)
     obtain ⟨Ao81, co81, eo81⟩ := Kd.R_slice yi.out
     (first | subst eo81 | (injection eo81 with f1_ f2_ f3_; have f4_ := f1_.symm; have f5_ := f3_.symm; clear f1_ f2_ f3_; subst f4_; subst f5_))
     refine hK.out _ _ ⟨(blk_cell za.out 0).trans rfl, (blk_cell za.out 1).trans rfl, (blk_cell za.out 2).trans rfl, (blk_cell za.out 3).trans rfl, (blk_cell za.out 4).trans rfl, (blk_cell za.out 5).trans rfl, (blk_cell za.out 6).trans rfl, (blk_cell za.out 7).trans rfl⟩ (fun hHeld => ?_)
     clear hK K
     refine norm_ (a' := ?_) ?_ ?_
     rotate_left
     ·show Act.put _ (some 93) _ = _
      simp only [Act.put, List.setIfInBounds_toArray, List.set_cons_zero, List.set_cons_succ, i64_w, i32_w]
      rfl
     refine one_ (i := 16) (N := some 97) #[true, true, true, true, true, true, true, true, true, true, true, true, true, true, true, true, true, false] rfl rfl (one_of HT_.out (by kernel_rfl)) (by decide) (fun K hK => ?_)
     refine goes_ Try.func35 (by kernel_rfl) rfl #[.slice Ao81 t162.length co81, .int .u64 (IntKind.u64.wrap (a0_7))] (by rfl) rfl rfl (by (try simp only [List.map_toArray, List.map_cons, List.map_nil]); first | done | rfl | (simp only [List.length_drop, List.length_take]; rfl)) ?_
     with_reducible refine (num_Put.calls k (fun k_ => some k_ = (.slice Ao81 t162.length co81 : Value).ownBlock) (.slice Ao81 t162.length co81) t162 (IntKind.u64.wrap (a0_7)) t165 w _ ?side1 ?side2 A65.out).mono ?_
     (case side1 => repeat (first | (with_reducible first | exact HB.out | apply wA | apply wN | apply wD | refine wS ?_ zc.out) | exact HB.out))
     (case side2 => exact Kd.R_tight rfl yi.out)
     rintro e w82 ⟨v166, rfl, ho0, hb, hkp⟩
     refine ⟨_, rfl, ?_⟩
     have n0_ := Aside0.mk (blk_kept (by (with_reducible repeat (first | refine bN ?_ _ | refine bD ?_ | refine bA ?_ _)); exact za.out) hkp (fun hs_ => (fun e_ => (Kd.R_ne yi.out za.out (by decide)) e_) hs_))
     have n1_ := Aside0.mk (Kd.R_mono (ok' := fun k_ => True) ho0 (fun k_ hk_ => trivial))
     have n2_ := Aside0.mk (hb)
     clear za HB yi
     have za := n0_
     have zcs := n1_
     have HB := n2_
     clear n0_ n1_ n2_
     (try clear hb)
     (try clear hkp)
     (try clear ho0)
     refine hK.out _ _ ⟨(blk_cell za.out 0).trans rfl, (blk_cell za.out 1).trans rfl, (blk_cell za.out 2).trans rfl, (blk_cell za.out 3).trans rfl, (blk_cell za.out 4).trans rfl, (blk_cell za.out 5).trans rfl, (blk_cell za.out 6).trans rfl, (blk_cell za.out 7).trans rfl⟩ (fun hHeld => ?_)
     clear hK K
     refine norm_ (a' := ?_) ?_ ?_
     rotate_left
     ·show Act.put _ (some 97) _ = _
      simp only [Act.put, List.setIfInBounds_toArray, List.set_cons_zero, List.set_cons_succ, i64_w, i32_w]
      rfl
     refine pure_ (i := 17) (N := some 6) (v := ?_) (a' := ?_) #[true, true, true, true, true, true, true, true, true, true, true, true, true, true, true, true, true, true] rfl rfl (any_of HT_.out (by kernel_rfl)) (fun _ _ _ h => h) (Or.inl ⟨by rfl, ?_⟩) ?_ ?_
     rotate_left
     ·intro w'
      go_simp
      with_reducible rfl
     rotate_left
     ·simp only [Act.put, List.setIfInBounds_toArray, List.set_cons_zero, List.set_cons_succ, i64_w, i32_w]
      rfl
     refine done_ (done_of HT_.out (by kernel_rfl)) ?_
     try go_wp2
     go_ret2
     exact ⟨_, by first | rfl | (simp [errW_none, errW_some] <;> rfl) | (simp [*, errW_none, errW_some] <;> rfl), by (with_reducible repeat (first | apply Kd.R_alloc | apply Kd.R_drewN | apply Kd.R_drew)); exact zcs.out, by repeat (first | (with_reducible first | exact HB.out | apply wA | apply wN | apply wD | refine wS ?_ zc.out) | exact HB.out)⟩
    ·rw [if_neg c61] at H
     have c61b0 : (a0_0 == 3) = false := beq_eq_false_iff_ne.mpr c61
     have c61b1 : (a0_0 != 3) = true := bne_iff_ne.mpr c61
     by_cases c83 : a0_0 = 4
     ·rw [if_pos c83] at H
      have c83b0 : (a0_0 == 4) = true := beq_iff_eq.mpr c83
      have c83b1 : (a0_0 != 4) = false := bne_eq_false_iff_eq.mpr c83
      clear c83
      replace H := Option.bind_eq_some_iff.mp H
      obtain ⟨t168, A840, H⟩ := H
      replace H : (some (t168, 0)) = some (r1, r2) := H
      have A84 := Aside0.mk A840
      clear A840
      simp only [Option.some.injEq, Prod.mk.injEq] at H
      obtain ⟨rfl, rfl⟩ := H
      go_enter Try.func16, Try.ntmps16
      go_wp2_with (first | ((with_reducible refine gate_dst (N := 2) rfl ?_); refine box_event ?hg (N := 2) ?hd (cs := #[.int .i64 a0_0, .slice A0_1 l0_1.length c0_1, .slice A0_2 l0_2.length c0_2, .slice A0_3 l0_3.length c0_3, .int .i64 a0_4, .int .i64 a0_5, .int .i64 a0_6, .int .i64 a0_7]) (t := 27) ?hr ?_; (case hd => rfl); (case hg => rfl); (case hr => first | (go_simp; done) | (go_simp; rfl)); intro zb hg w85 hbox hb; have n0_ := Aside0.mk (below_step (by repeat (first | (with_reducible first | exact HB.out | apply wA | apply wN | apply wD) | exact HB.out)) hb); have n1_ := Aside0.mk (hbox); have n2_ := Aside0.mk ((by rw [hg]; exact (below_size (by repeat (first | (with_reducible first | exact HB.out | apply wA | apply wN | apply wD) | exact HB.out))) : w.heap.size ≤ zb)); have n3_ := Aside0.mk ((by rw [hg]; exact (below_size (by repeat (first | (with_reducible first | exact HB.out | apply wA | apply wN | apply wD) | exact HB.out))) : w.heap.size ≤ zb)); clear HB; have HB := n0_; have za := n1_; have yb := n2_; have zc := n3_; clear n0_ n1_ n2_ n3_; clear hb hbox hg; have zfi : w85.cell? ⟨zb, 0, none⟩ = some (.int .i64 a0_0) := (blk_cell za.out 0).trans rfl; have zfj : w85.cell? ⟨zb, 1, none⟩ = some (.slice A0_1 l0_1.length c0_1) := (blk_cell za.out 1).trans rfl; have zfk : w85.cell? ⟨zb, 2, none⟩ = some (.slice A0_2 l0_2.length c0_2) := (blk_cell za.out 2).trans rfl; have zfl : w85.cell? ⟨zb, 3, none⟩ = some (.slice A0_3 l0_3.length c0_3) := (blk_cell za.out 3).trans rfl; have zfm : w85.cell? ⟨zb, 4, none⟩ = some (.int .i64 a0_4) := (blk_cell za.out 4).trans rfl; have zfn : w85.cell? ⟨zb, 5, none⟩ = some (.int .i64 a0_5) := (blk_cell za.out 5).trans rfl; have zfo : w85.cell? ⟨zb, 6, none⟩ = some (.int .i64 a0_6) := (blk_cell za.out 6).trans rfl; have zfp : w85.cell? ⟨zb, 7, none⟩ = some (.int .i64 a0_7) := (blk_cell za.out 7).trans rfl; have zfq := blk_frozen za.out 0; have zfr := blk_frozen za.out 1; have zfs := blk_frozen za.out 2; have zft := blk_frozen za.out 3; have zfu := blk_frozen za.out 4; have zfv := blk_frozen za.out 5; have zfw := blk_frozen za.out 6; have zfx := blk_frozen za.out 7) | ((with_reducible refine gate_callee (f := 17) rfl ?_); refine goesL_ (some 12) rfl rfl Try.func17 (by kernel_rfl) rfl #[.agg #[.int .i64 a0_0, .slice A0_1 l0_1.length c0_1, .slice A0_2 l0_2.length c0_2, .slice A0_3 l0_3.length c0_3, .int .i64 a0_4, .int .i64 a0_5, .int .i64 a0_6, .int .i64 a0_7]] rfl (by (try simp only [List.map_toArray, List.map_cons, List.map_nil]); first | done | rfl | (simp only [List.length_drop, List.length_take]; rfl)) ?_; (with_reducible refine (page_Page_Right.calls k a0_0 _ _ l0_1 _ _ l0_2 _ _ l0_3 a0_4 a0_5 a0_6 a0_7 true _ ?side1 ?side2 ?side3 ?side4 ?side5 ?side6 A3.out).mono ?_); (case side1 => repeat (first | exact (Kd.C_below zo.out HB.out) | (with_reducible refine Kd.C_alloc ?_ _) | (with_reducible refine Kd.C_drewN ?_ _) | (with_reducible refine Kd.C_drew ?_))); (case side2 => exact zx.out); (case side3 => repeat (first | exact (Kd.C_below zq.out HB.out) | (with_reducible refine Kd.C_alloc ?_ _) | (with_reducible refine Kd.C_drewN ?_ _) | (with_reducible refine Kd.C_drew ?_))); (case side4 => exact zy.out); (case side5 => repeat (first | exact (Kd.C_below zp.out HB.out) | (with_reducible refine Kd.C_alloc ?_ _) | (with_reducible refine Kd.C_drewN ?_ _) | (with_reducible refine Kd.C_drew ?_))); (case side6 => exact zz.out); rintro e w87 ⟨rfl, hb⟩; refine ⟨_, rfl, ?_⟩; have n0_ := Aside0.mk (blk_below (g := zb) (o := .cells #[.int .i64 a0_0, .slice A0_1 l0_1.length c0_1, .slice A0_2 l0_2.length c0_2, .slice A0_3 l0_3.length c0_3, .int .i64 a0_4, .int .i64 a0_5, .int .i64 a0_6, .int .i64 a0_7] 27 (0, 0)) (by (with_reducible repeat (first | refine bN ?_ _ | refine bD ?_ | refine bA ?_ _)); exact za.out) hb); have n1_ := Aside0.mk (below_step (by repeat (first | (with_reducible first | exact HB.out | apply wA | apply wN | apply wD | refine wS ?_ zc.out) | exact HB.out)) hb); clear za; clear HB; have za := n0_; have HB := n1_; clear n0_ n1_; (try clear hb); (try clear hb2); (try clear hk); (try clear hi); have zfy : w87.cell? ⟨zb, 0, none⟩ = some (.int .i64 a0_0) := (blk_cell za.out 0).trans rfl; have zfz : w87.cell? ⟨zb, 1, none⟩ = some (.slice A0_1 l0_1.length c0_1) := (blk_cell za.out 1).trans rfl; have zf0 : w87.cell? ⟨zb, 2, none⟩ = some (.slice A0_2 l0_2.length c0_2) := (blk_cell za.out 2).trans rfl; have zf1 : w87.cell? ⟨zb, 3, none⟩ = some (.slice A0_3 l0_3.length c0_3) := (blk_cell za.out 3).trans rfl; have zf2 : w87.cell? ⟨zb, 4, none⟩ = some (.int .i64 a0_4) := (blk_cell za.out 4).trans rfl; have zf3 : w87.cell? ⟨zb, 5, none⟩ = some (.int .i64 a0_5) := (blk_cell za.out 5).trans rfl; have zf4 : w87.cell? ⟨zb, 6, none⟩ = some (.int .i64 a0_6) := (blk_cell za.out 6).trans rfl; have zf5 : w87.cell? ⟨zb, 7, none⟩ = some (.int .i64 a0_7) := (blk_cell za.out 7).trans rfl; have zf6 := blk_frozen za.out 0; have zf7 := blk_frozen za.out 1; have zf8 := blk_frozen za.out 2; have zf9 := blk_frozen za.out 3; have zga := blk_frozen za.out 4; have zgb := blk_frozen za.out 5; have zgc := blk_frozen za.out 6; have zgd := blk_frozen za.out 7) | ((with_reducible refine gate_callee (f := 35) rfl ?_); refine goesL_ (some 17) rfl rfl Try.func35 (by kernel_rfl) rfl #[.slice none 0 0, .int .u64 (IntKind.u64.wrap (a0_0))] rfl (by (try simp only [List.map_toArray, List.map_cons, List.map_nil]); first | done | rfl | (simp only [List.length_drop, List.length_take]; rfl)) ?_; (refine (num_Put.calls k (fun k_ => some k_ = (.slice none 0 0 : Value).ownBlock) (.slice none 0 0) ([] : List Int) (IntKind.u64.wrap (a0_0)) t125 w _ ?side1 ?side2 A5.out).mono ?_); (case side1 => repeat (first | (with_reducible first | exact HB.out | apply wA | apply wN | apply wD | refine wS ?_ zc.out) | exact HB.out)); (case side2 => exact Kd.R_nil _ _ _ _ _); rintro e w89 ⟨v126, rfl, ho0, hb, hkp⟩; refine ⟨_, rfl, ?_⟩; have n0_ := Aside0.mk (blk_kept (by (with_reducible repeat (first | refine bN ?_ _ | refine bD ?_ | refine bA ?_ _)); exact za.out) hkp (fun hs_ => (fun e_ => by simp [Value.ownBlock] at e_) hs_)); have n1_ := Aside0.mk (Kd.R_mono (ok' := fun k_ => True) ho0 (fun k_ hk_ => trivial)); have n2_ := Aside0.mk (hb); clear za; clear HB; have za := n0_; have zg := n1_; have HB := n2_; clear n0_ n1_ n2_; (try clear hb); (try clear hkp); (try clear ho0); obtain ⟨Ao90, co90, eo90⟩ := Kd.R_slice zg.out; subst eo90) | ((with_reducible refine gate_callee (f := 35) rfl ?_); refine goesL_ (some 19) rfl rfl Try.func35 (by kernel_rfl) rfl #[.slice Ao90 t125.length co90, .int .u64 a1] rfl (by (try simp only [List.map_toArray, List.map_cons, List.map_nil]); first | done | rfl | (simp only [List.length_drop, List.length_take]; rfl)) ?_; (with_reducible refine (num_Put.calls k (fun k_ => some k_ = (.slice Ao90 t125.length co90 : Value).ownBlock) (.slice Ao90 t125.length co90) t125 a1 t128 w _ ?side1 ?side2 A6.out).mono ?_); (case side1 => repeat (first | (with_reducible first | exact HB.out | apply wA | apply wN | apply wD | refine wS ?_ zc.out) | exact HB.out)); (case side2 => exact Kd.R_tight rfl zg.out); rintro e w91 ⟨v129, rfl, ho0, hb, hkp⟩; refine ⟨_, rfl, ?_⟩; have n0_ := Aside0.mk (blk_kept (by (with_reducible repeat (first | refine bN ?_ _ | refine bD ?_ | refine bA ?_ _)); exact za.out) hkp (fun hs_ => (fun e_ => (Kd.R_ne zg.out za.out (by decide)) e_) hs_)); have n1_ := Aside0.mk (Kd.R_mono (ok' := fun k_ => True) ho0 (fun k_ hk_ => trivial)); have n2_ := Aside0.mk (hb); clear za; clear HB; clear zg; have za := n0_; have zf := n1_; have HB := n2_; clear n0_ n1_ n2_; (try clear hb); (try clear hkp); (try clear ho0); have zge : w91.cell? ⟨zb, 0, none⟩ = some (.int .i64 a0_0) := (blk_cell za.out 0).trans rfl; have zgf : w91.cell? ⟨zb, 1, none⟩ = some (.slice A0_1 l0_1.length c0_1) := (blk_cell za.out 1).trans rfl; have zgg : w91.cell? ⟨zb, 2, none⟩ = some (.slice A0_2 l0_2.length c0_2) := (blk_cell za.out 2).trans rfl; have zgh : w91.cell? ⟨zb, 3, none⟩ = some (.slice A0_3 l0_3.length c0_3) := (blk_cell za.out 3).trans rfl; have zgi : w91.cell? ⟨zb, 4, none⟩ = some (.int .i64 a0_4) := (blk_cell za.out 4).trans rfl; have zgj : w91.cell? ⟨zb, 5, none⟩ = some (.int .i64 a0_5) := (blk_cell za.out 5).trans rfl; have zgk : w91.cell? ⟨zb, 6, none⟩ = some (.int .i64 a0_6) := (blk_cell za.out 6).trans rfl; have zgl : w91.cell? ⟨zb, 7, none⟩ = some (.int .i64 a0_7) := (blk_cell za.out 7).trans rfl; have zgm := blk_frozen za.out 0; have zgn := blk_frozen za.out 1; have zgo := blk_frozen za.out 2; have zgp := blk_frozen za.out 3; have zgq := blk_frozen za.out 4; have zgr := blk_frozen za.out 5; have zgs := blk_frozen za.out 6; have zgt := blk_frozen za.out 7; obtain ⟨Ao93, co93, eo93⟩ := Kd.R_slice zf.out; subst eo93) | ((with_reducible refine gate_callee (f := 35) rfl ?_); refine goesL_ (some 104) rfl rfl Try.func35 (by kernel_rfl) rfl #[.slice Ao93 t128.length co93, .int .u64 (IntKind.u64.wrap (a0_5))] rfl (by (try simp only [List.map_toArray, List.map_cons, List.map_nil]); first | done | rfl | (simp only [List.length_drop, List.length_take]; rfl)) ?_; (with_reducible refine (num_Put.calls k (fun k_ => some k_ = (.slice Ao93 t128.length co93 : Value).ownBlock) (.slice Ao93 t128.length co93) t128 (IntKind.u64.wrap (a0_5)) t168 w _ ?side1 ?side2 A84.out).mono ?_); (case side1 => repeat (first | (with_reducible first | exact HB.out | apply wA | apply wN | apply wD | refine wS ?_ zc.out) | exact HB.out)); (case side2 => exact Kd.R_tight rfl zf.out); rintro e w94 ⟨v169, rfl, ho0, hb, hkp⟩; refine ⟨_, rfl, ?_⟩; have n0_ := Aside0.mk (blk_kept (by (with_reducible repeat (first | refine bN ?_ _ | refine bD ?_ | refine bA ?_ _)); exact za.out) hkp (fun hs_ => (fun e_ => (Kd.R_ne zf.out za.out (by decide)) e_) hs_)); have n1_ := Aside0.mk (Kd.R_mono (ok' := fun k_ => True) ho0 (fun k_ hk_ => trivial)); have n2_ := Aside0.mk (hb); clear za; clear HB; clear zf; have za := n0_; have zct := n1_; have HB := n2_; clear n0_ n1_ n2_; (try clear hb); (try clear hkp); (try clear ho0)))
      go_ret2
      exact ⟨_, by first | rfl | (simp [errW_none, errW_some] <;> rfl) | (simp [*, errW_none, errW_some] <;> rfl), by (with_reducible repeat (first | apply Kd.R_alloc | apply Kd.R_drewN | apply Kd.R_drew)); exact zct.out, by repeat (first | (with_reducible first | exact HB.out | apply wA | apply wN | apply wD | refine wS ?_ zc.out) | exact HB.out)⟩
     ·rw [if_neg c83] at H
      have c83b0 : (a0_0 == 4) = false := beq_eq_false_iff_ne.mpr c83
      have c83b1 : (a0_0 != 4) = true := bne_iff_ne.mpr c83
      simp only [Option.some.injEq, Prod.mk.injEq] at H
      obtain ⟨rfl, rfl⟩ := H
      go_enter Try.func16, Try.ntmps16
      go_wp2_with (first | ((with_reducible refine gate_dst (N := 2) rfl ?_); refine box_event ?hg (N := 2) ?hd (cs := #[.int .i64 a0_0, .slice A0_1 l0_1.length c0_1, .slice A0_2 l0_2.length c0_2, .slice A0_3 l0_3.length c0_3, .int .i64 a0_4, .int .i64 a0_5, .int .i64 a0_6, .int .i64 a0_7]) (t := 27) ?hr ?_; (case hd => rfl); (case hg => rfl); (case hr => first | (go_simp; done) | (go_simp; rfl)); intro zb hg w95 hbox hb; have n0_ := Aside0.mk (below_step (by repeat (first | (with_reducible first | exact HB.out | apply wA | apply wN | apply wD) | exact HB.out)) hb); have n1_ := Aside0.mk (hbox); have n2_ := Aside0.mk ((by rw [hg]; exact (below_size (by repeat (first | (with_reducible first | exact HB.out | apply wA | apply wN | apply wD) | exact HB.out))) : w.heap.size ≤ zb)); have n3_ := Aside0.mk ((by rw [hg]; exact (below_size (by repeat (first | (with_reducible first | exact HB.out | apply wA | apply wN | apply wD) | exact HB.out))) : w.heap.size ≤ zb)); clear HB; have HB := n0_; have za := n1_; have yb := n2_; have zc := n3_; clear n0_ n1_ n2_ n3_; clear hb hbox hg; have zgu : w95.cell? ⟨zb, 0, none⟩ = some (.int .i64 a0_0) := (blk_cell za.out 0).trans rfl; have zgv : w95.cell? ⟨zb, 1, none⟩ = some (.slice A0_1 l0_1.length c0_1) := (blk_cell za.out 1).trans rfl; have zgw : w95.cell? ⟨zb, 2, none⟩ = some (.slice A0_2 l0_2.length c0_2) := (blk_cell za.out 2).trans rfl; have zgx : w95.cell? ⟨zb, 3, none⟩ = some (.slice A0_3 l0_3.length c0_3) := (blk_cell za.out 3).trans rfl; have zgy : w95.cell? ⟨zb, 4, none⟩ = some (.int .i64 a0_4) := (blk_cell za.out 4).trans rfl; have zgz : w95.cell? ⟨zb, 5, none⟩ = some (.int .i64 a0_5) := (blk_cell za.out 5).trans rfl; have zg0 : w95.cell? ⟨zb, 6, none⟩ = some (.int .i64 a0_6) := (blk_cell za.out 6).trans rfl; have zg1 : w95.cell? ⟨zb, 7, none⟩ = some (.int .i64 a0_7) := (blk_cell za.out 7).trans rfl; have zg2 := blk_frozen za.out 0; have zg3 := blk_frozen za.out 1; have zg4 := blk_frozen za.out 2; have zg5 := blk_frozen za.out 3; have zg6 := blk_frozen za.out 4; have zg7 := blk_frozen za.out 5; have zg8 := blk_frozen za.out 6; have zg9 := blk_frozen za.out 7) | ((with_reducible refine gate_callee (f := 17) rfl ?_); refine goesL_ (some 12) rfl rfl Try.func17 (by kernel_rfl) rfl #[.agg #[.int .i64 a0_0, .slice A0_1 l0_1.length c0_1, .slice A0_2 l0_2.length c0_2, .slice A0_3 l0_3.length c0_3, .int .i64 a0_4, .int .i64 a0_5, .int .i64 a0_6, .int .i64 a0_7]] rfl (by (try simp only [List.map_toArray, List.map_cons, List.map_nil]); first | done | rfl | (simp only [List.length_drop, List.length_take]; rfl)) ?_; (with_reducible refine (page_Page_Right.calls k a0_0 _ _ l0_1 _ _ l0_2 _ _ l0_3 a0_4 a0_5 a0_6 a0_7 true _ ?side1 ?side2 ?side3 ?side4 ?side5 ?side6 A3.out).mono ?_); (case side1 => repeat (first | exact (Kd.C_below zo.out HB.out) | (with_reducible refine Kd.C_alloc ?_ _) | (with_reducible refine Kd.C_drewN ?_ _) | (with_reducible refine Kd.C_drew ?_))); (case side2 => exact zx.out); (case side3 => repeat (first | exact (Kd.C_below zq.out HB.out) | (with_reducible refine Kd.C_alloc ?_ _) | (with_reducible refine Kd.C_drewN ?_ _) | (with_reducible refine Kd.C_drew ?_))); (case side4 => exact zy.out); (case side5 => repeat (first | exact (Kd.C_below zp.out HB.out) | (with_reducible refine Kd.C_alloc ?_ _) | (with_reducible refine Kd.C_drewN ?_ _) | (with_reducible refine Kd.C_drew ?_))); (case side6 => exact zz.out); rintro e w97 ⟨rfl, hb⟩; refine ⟨_, rfl, ?_⟩; have n0_ := Aside0.mk (blk_below (g := zb) (o := .cells #[.int .i64 a0_0, .slice A0_1 l0_1.length c0_1, .slice A0_2 l0_2.length c0_2, .slice A0_3 l0_3.length c0_3, .int .i64 a0_4, .int .i64 a0_5, .int .i64 a0_6, .int .i64 a0_7] 27 (0, 0)) (by (with_reducible repeat (first | refine bN ?_ _ | refine bD ?_ | refine bA ?_ _)); exact za.out) hb); have n1_ := Aside0.mk (below_step (by repeat (first | (with_reducible first | exact HB.out | apply wA | apply wN | apply wD | refine wS ?_ zc.out) | exact HB.out)) hb); clear za; clear HB; have za := n0_; have HB := n1_; clear n0_ n1_; (try clear hb); (try clear hb2); (try clear hk); (try clear hi); have zha : w97.cell? ⟨zb, 0, none⟩ = some (.int .i64 a0_0) := (blk_cell za.out 0).trans rfl; have zhb : w97.cell? ⟨zb, 1, none⟩ = some (.slice A0_1 l0_1.length c0_1) := (blk_cell za.out 1).trans rfl; have zhc : w97.cell? ⟨zb, 2, none⟩ = some (.slice A0_2 l0_2.length c0_2) := (blk_cell za.out 2).trans rfl; have zhd : w97.cell? ⟨zb, 3, none⟩ = some (.slice A0_3 l0_3.length c0_3) := (blk_cell za.out 3).trans rfl; have zhe : w97.cell? ⟨zb, 4, none⟩ = some (.int .i64 a0_4) := (blk_cell za.out 4).trans rfl; have zhf : w97.cell? ⟨zb, 5, none⟩ = some (.int .i64 a0_5) := (blk_cell za.out 5).trans rfl; have zhg : w97.cell? ⟨zb, 6, none⟩ = some (.int .i64 a0_6) := (blk_cell za.out 6).trans rfl; have zhh : w97.cell? ⟨zb, 7, none⟩ = some (.int .i64 a0_7) := (blk_cell za.out 7).trans rfl; have zhi := blk_frozen za.out 0; have zhj := blk_frozen za.out 1; have zhk := blk_frozen za.out 2; have zhl := blk_frozen za.out 3; have zhm := blk_frozen za.out 4; have zhn := blk_frozen za.out 5; have zho := blk_frozen za.out 6; have zhp := blk_frozen za.out 7) | ((with_reducible refine gate_callee (f := 35) rfl ?_); refine goesL_ (some 17) rfl rfl Try.func35 (by kernel_rfl) rfl #[.slice none 0 0, .int .u64 (IntKind.u64.wrap (a0_0))] rfl (by (try simp only [List.map_toArray, List.map_cons, List.map_nil]); first | done | rfl | (simp only [List.length_drop, List.length_take]; rfl)) ?_; (refine (num_Put.calls k (fun k_ => some k_ = (.slice none 0 0 : Value).ownBlock) (.slice none 0 0) ([] : List Int) (IntKind.u64.wrap (a0_0)) t125 w _ ?side1 ?side2 A5.out).mono ?_); (case side1 => repeat (first | (with_reducible first | exact HB.out | apply wA | apply wN | apply wD | refine wS ?_ zc.out) | exact HB.out)); (case side2 => exact Kd.R_nil _ _ _ _ _); rintro e w99 ⟨v126, rfl, ho0, hb, hkp⟩; refine ⟨_, rfl, ?_⟩; have n0_ := Aside0.mk (blk_kept (by (with_reducible repeat (first | refine bN ?_ _ | refine bD ?_ | refine bA ?_ _)); exact za.out) hkp (fun hs_ => (fun e_ => by simp [Value.ownBlock] at e_) hs_)); have n1_ := Aside0.mk (Kd.R_mono (ok' := fun k_ => True) ho0 (fun k_ hk_ => trivial)); have n2_ := Aside0.mk (hb); clear za; clear HB; have za := n0_; have zg := n1_; have HB := n2_; clear n0_ n1_ n2_; (try clear hb); (try clear hkp); (try clear ho0); obtain ⟨Ao100, co100, eo100⟩ := Kd.R_slice zg.out; subst eo100) | ((with_reducible refine gate_callee (f := 35) rfl ?_); refine goesL_ (some 19) rfl rfl Try.func35 (by kernel_rfl) rfl #[.slice Ao100 t125.length co100, .int .u64 a1] rfl (by (try simp only [List.map_toArray, List.map_cons, List.map_nil]); first | done | rfl | (simp only [List.length_drop, List.length_take]; rfl)) ?_; (with_reducible refine (num_Put.calls k (fun k_ => some k_ = (.slice Ao100 t125.length co100 : Value).ownBlock) (.slice Ao100 t125.length co100) t125 a1 t128 w _ ?side1 ?side2 A6.out).mono ?_); (case side1 => repeat (first | (with_reducible first | exact HB.out | apply wA | apply wN | apply wD | refine wS ?_ zc.out) | exact HB.out)); (case side2 => exact Kd.R_tight rfl zg.out); rintro e w101 ⟨v129, rfl, ho0, hb, hkp⟩; refine ⟨_, rfl, ?_⟩; have n0_ := Aside0.mk (blk_kept (by (with_reducible repeat (first | refine bN ?_ _ | refine bD ?_ | refine bA ?_ _)); exact za.out) hkp (fun hs_ => (fun e_ => (Kd.R_ne zg.out za.out (by decide)) e_) hs_)); have n1_ := Aside0.mk (Kd.R_mono (ok' := fun k_ => True) ho0 (fun k_ hk_ => trivial)); have n2_ := Aside0.mk (hb); clear za; clear HB; clear zg; have za := n0_; have zf := n1_; have HB := n2_; clear n0_ n1_ n2_; (try clear hb); (try clear hkp); (try clear ho0); have zcu : w101.cell? ⟨zb, 0, none⟩ = some (.int .i64 a0_0) := (blk_cell za.out 0).trans rfl; have zcv : w101.cell? ⟨zb, 1, none⟩ = some (.slice A0_1 l0_1.length c0_1) := (blk_cell za.out 1).trans rfl; have zcw : w101.cell? ⟨zb, 2, none⟩ = some (.slice A0_2 l0_2.length c0_2) := (blk_cell za.out 2).trans rfl; have zcx : w101.cell? ⟨zb, 3, none⟩ = some (.slice A0_3 l0_3.length c0_3) := (blk_cell za.out 3).trans rfl; have zcy : w101.cell? ⟨zb, 4, none⟩ = some (.int .i64 a0_4) := (blk_cell za.out 4).trans rfl; have zcz : w101.cell? ⟨zb, 5, none⟩ = some (.int .i64 a0_5) := (blk_cell za.out 5).trans rfl; have zc0 : w101.cell? ⟨zb, 6, none⟩ = some (.int .i64 a0_6) := (blk_cell za.out 6).trans rfl; have zc1 : w101.cell? ⟨zb, 7, none⟩ = some (.int .i64 a0_7) := (blk_cell za.out 7).trans rfl; have zc2 := blk_frozen za.out 0; have zc3 := blk_frozen za.out 1; have zc4 := blk_frozen za.out 2; have zc5 := blk_frozen za.out 3; have zc6 := blk_frozen za.out 4; have zc7 := blk_frozen za.out 5; have zc8 := blk_frozen za.out 6; have zc9 := blk_frozen za.out 7))
      go_ret2
      exact ⟨_, by first | rfl | (simp [errW_none, errW_some] <;> rfl) | (simp [*, errW_none, errW_some] <;> rfl), by (with_reducible repeat (first | apply Kd.R_alloc | apply Kd.R_drewN | apply Kd.R_drew)); exact zf.out, by repeat (first | (with_reducible first | exact HB.out | apply wA | apply wN | apply wD | refine wS ?_ zc.out) | exact HB.out)⟩
 ·replace c4 := Bool.eq_false_iff.mpr c4
  subst c4
  have H1 : (some (([] : List Int), 1)) = some (r1, r2) := by rw [if_neg (show ¬ (false = true) by decide)] at H; exact H
  clear H
  have H := H1
  clear H1
  simp only [Option.some.injEq, Prod.mk.injEq] at H
  obtain ⟨rfl, rfl⟩ := H
  go_enter Try.func16, Try.ntmps16
  go_wp2_with (first | ((with_reducible refine gate_dst (N := 2) rfl ?_); refine box_event ?hg (N := 2) ?hd (cs := #[.int .i64 a0_0, .slice A0_1 l0_1.length c0_1, .slice A0_2 l0_2.length c0_2, .slice A0_3 l0_3.length c0_3, .int .i64 a0_4, .int .i64 a0_5, .int .i64 a0_6, .int .i64 a0_7]) (t := 27) ?hr ?_; (case hd => rfl); (case hg => rfl); (case hr => first | (go_simp; done) | (go_simp; rfl)); intro zb hg w103 hbox hb; have n0_ := Aside0.mk (below_step (by repeat (first | (with_reducible first | exact HB.out | apply wA | apply wN | apply wD) | exact HB.out)) hb); have n1_ := Aside0.mk (hbox); have n2_ := Aside0.mk ((by rw [hg]; exact (below_size (by repeat (first | (with_reducible first | exact HB.out | apply wA | apply wN | apply wD) | exact HB.out))) : w.heap.size ≤ zb)); have n3_ := Aside0.mk ((by rw [hg]; exact (below_size (by repeat (first | (with_reducible first | exact HB.out | apply wA | apply wN | apply wD) | exact HB.out))) : w.heap.size ≤ zb)); clear HB; have HB := n0_; have za := n1_; have yb := n2_; have zc := n3_; clear n0_ n1_ n2_ n3_; clear hb hbox hg; have zda : w103.cell? ⟨zb, 0, none⟩ = some (.int .i64 a0_0) := (blk_cell za.out 0).trans rfl; have zdb : w103.cell? ⟨zb, 1, none⟩ = some (.slice A0_1 l0_1.length c0_1) := (blk_cell za.out 1).trans rfl; have zdc : w103.cell? ⟨zb, 2, none⟩ = some (.slice A0_2 l0_2.length c0_2) := (blk_cell za.out 2).trans rfl; have zdd : w103.cell? ⟨zb, 3, none⟩ = some (.slice A0_3 l0_3.length c0_3) := (blk_cell za.out 3).trans rfl; have zde : w103.cell? ⟨zb, 4, none⟩ = some (.int .i64 a0_4) := (blk_cell za.out 4).trans rfl; have zdf : w103.cell? ⟨zb, 5, none⟩ = some (.int .i64 a0_5) := (blk_cell za.out 5).trans rfl; have zdg : w103.cell? ⟨zb, 6, none⟩ = some (.int .i64 a0_6) := (blk_cell za.out 6).trans rfl; have zdh : w103.cell? ⟨zb, 7, none⟩ = some (.int .i64 a0_7) := (blk_cell za.out 7).trans rfl; have zdi := blk_frozen za.out 0; have zdj := blk_frozen za.out 1; have zdk := blk_frozen za.out 2; have zdl := blk_frozen za.out 3; have zdm := blk_frozen za.out 4; have zdn := blk_frozen za.out 5; have zdo := blk_frozen za.out 6; have zdp := blk_frozen za.out 7) | ((with_reducible refine gate_callee (f := 17) rfl ?_); refine goesL_ (some 12) rfl rfl Try.func17 (by kernel_rfl) rfl #[.agg #[.int .i64 a0_0, .slice A0_1 l0_1.length c0_1, .slice A0_2 l0_2.length c0_2, .slice A0_3 l0_3.length c0_3, .int .i64 a0_4, .int .i64 a0_5, .int .i64 a0_6, .int .i64 a0_7]] rfl (by (try simp only [List.map_toArray, List.map_cons, List.map_nil]); first | done | rfl | (simp only [List.length_drop, List.length_take]; rfl)) ?_; (with_reducible refine (page_Page_Right.calls k a0_0 _ _ l0_1 _ _ l0_2 _ _ l0_3 a0_4 a0_5 a0_6 a0_7 false _ ?side1 ?side2 ?side3 ?side4 ?side5 ?side6 A3.out).mono ?_); (case side1 => repeat (first | exact (Kd.C_below zo.out HB.out) | (with_reducible refine Kd.C_alloc ?_ _) | (with_reducible refine Kd.C_drewN ?_ _) | (with_reducible refine Kd.C_drew ?_))); (case side2 => exact zx.out); (case side3 => repeat (first | exact (Kd.C_below zq.out HB.out) | (with_reducible refine Kd.C_alloc ?_ _) | (with_reducible refine Kd.C_drewN ?_ _) | (with_reducible refine Kd.C_drew ?_))); (case side4 => exact zy.out); (case side5 => repeat (first | exact (Kd.C_below zp.out HB.out) | (with_reducible refine Kd.C_alloc ?_ _) | (with_reducible refine Kd.C_drewN ?_ _) | (with_reducible refine Kd.C_drew ?_))); (case side6 => exact zz.out); rintro e w105 ⟨rfl, hb⟩; refine ⟨_, rfl, ?_⟩; have n0_ := Aside0.mk (blk_below (g := zb) (o := .cells #[.int .i64 a0_0, .slice A0_1 l0_1.length c0_1, .slice A0_2 l0_2.length c0_2, .slice A0_3 l0_3.length c0_3, .int .i64 a0_4, .int .i64 a0_5, .int .i64 a0_6, .int .i64 a0_7] 27 (0, 0)) (by (with_reducible repeat (first | refine bN ?_ _ | refine bD ?_ | refine bA ?_ _)); exact za.out) hb); have n1_ := Aside0.mk (below_step (by repeat (first | (with_reducible first | exact HB.out | apply wA | apply wN | apply wD | refine wS ?_ zc.out) | exact HB.out)) hb); clear za; clear HB; have za := n0_; have HB := n1_; clear n0_ n1_; (try clear hb); (try clear hb2); (try clear hk); (try clear hi)))
  go_ret2
  exact ⟨_, by first | rfl | (simp [errW_none, errW_some] <;> rfl) | (simp [*, errW_none, errW_some] <;> rfl), by first | exact Kd.R_nil _ _ _ _ _ | exact Kd.N_nil _ _ _ _ _ | exact Kd.V_nil _ _ _ _ _ | exact Kd.Q_nil _ _ _ _ _ | exact Kd.S_nil _ _ _ _ _, by repeat (first | (with_reducible first | exact HB.out | apply wA | apply wN | apply wD | refine wS ?_ zc.out) | exact HB.out)⟩

end Go.Proofs.Ytopfaeefhicljaa.Q
