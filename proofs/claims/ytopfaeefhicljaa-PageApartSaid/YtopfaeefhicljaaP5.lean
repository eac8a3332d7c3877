-- printed by a turned print (wip/mkprint.py of this repo) out of the translation; Lean checks it
import Derived.Test.YtopfaeefhicljaaP0
import Derived.Test.YtopfaeefhicljaaP3
import Derived.Test.YtopfaeefhicljaaP4
namespace Go.Proofs.Ytopfaeefhicljaa.Q
open Go.RowKit Go.Proofs.YtopfaeefhicljaaW.PrintWords Go.Proofs.YtopfaeefhicljaaW.PrintLast Go.Proofs.YtopfaeefhicljaaW.PrintMore
attribute [local go_sem] max2_int min2_int max_two min_two max_three min_three max_four min_four   -- for this text's walks alone
set_option linter.unusedVariables false
set_option linter.unusedSimpArgs false

/-! ### page_Encode: function 16 -/
mutual
def page_Encode.l0 : Nat → List Int → List ByteArray → Int → Int → Int → List ByteArray → List ByteArray → List Int → Int → Int → Int → Int → Option (List Int × Int)
  | 0, _, _, _, _, _, _, _, _, _, _, _, _ => none
  | k + 1, x6, x31, x32, x33, x124000, x124001, x124002, x124003, x124004, x124005, x124006, x124007 => if x33 < x32 then (if 0 ≤ x33 then (if x33 < (x31.length : Int) then ((num_Text.f k x6 (rdOf ByteArray.empty x31 x33)).bind fun t135 => (if x33 < (x124002.length : Int) then ((num_Text.f k t135 (rdOf ByteArray.empty x124002 x33)).bind fun t139 => (page_Encode.l0 k t139 x31 x32 (wrap64 (x33 + 1)) x124000 x124001 x124002 x124003 x124004 x124005 x124006 x124007)) else (none))) else (none)) else (none)) else (some (x6, 0))
def page_Encode.l1 : Nat → List Int → List Int → Int → Int → Int → List ByteArray → List ByteArray → List Int → Int → Int → Int → Int → Option (List Int × Int)
  | 0, _, _, _, _, _, _, _, _, _, _, _, _ => none
  | k + 1, x6, x57, x58, x59, x124000, x124001, x124002, x124003, x124004, x124005, x124006, x124007 => if x59 < x58 then (if 0 ≤ x59 then (if x59 < (x57.length : Int) then (if x59 > 0 then (if 0 ≤ (wrap64 (x59 - 1)) then (if (wrap64 (x59 - 1)) < (x124001.length : Int) then ((num_Text.f k x6 (rdOf ByteArray.empty x124001 (wrap64 (x59 - 1)))).bind fun t147 => ((num_Put.f k t147 (IntKind.u64.wrap (rd x57 x59))).bind fun t150 => (page_Encode.l1 k t150 x57 x58 (wrap64 (x59 + 1)) x124000 x124001 x124002 x124003 x124004 x124005 x124006 x124007))) else (none)) else (none)) else ((num_Put.f k x6 (IntKind.u64.wrap (rd x57 x59))).bind fun t153 => (page_Encode.l1 k t153 x57 x58 (wrap64 (x59 + 1)) x124000 x124001 x124002 x124003 x124004 x124005 x124006 x124007))) else (none)) else (none)) else (some (x6, 0))
end
def page_Encode.f (k : Nat) (a0_0 : Int) (l0_1 : List ByteArray) (l0_2 : List ByteArray) (l0_3 : List Int) (a0_4 : Int) (a0_5 : Int) (a0_6 : Int) (a0_7 : Int) (a1 : Int) : Option (List Int × Int) := (page_Page_Right.f k a0_0 l0_1 l0_2 l0_3 a0_4 a0_5 a0_6 a0_7).bind fun t124 => (if t124 = true then ((num_Put.f k ([] : List Int) (IntKind.u64.wrap (a0_0))).bind fun t125 => ((num_Put.f k t125 a1).bind fun t128 => (if a0_0 = 1 then ((num_Put.f k t128 (IntKind.u64.wrap ((l0_1.length : Int)))).bind fun t131 => (page_Encode.l0 k t131 l0_1 (l0_1.length : Int) 0 a0_0 l0_1 l0_2 l0_3 a0_4 a0_5 a0_6 a0_7)) else (if a0_0 = 2 then ((num_Put.f k t128 (IntKind.u64.wrap ((l0_3.length : Int)))).bind fun t142 => (page_Encode.l1 k t142 l0_3 (l0_3.length : Int) 0 a0_0 l0_1 l0_2 l0_3 a0_4 a0_5 a0_6 a0_7)) else (if a0_0 = 3 then ((num_Put.f k t128 (IntKind.u64.wrap (a0_4))).bind fun t156 => ((num_Put.f k t156 (IntKind.u64.wrap (a0_5))).bind fun t159 => ((num_Put.f k t159 (IntKind.u64.wrap (a0_6))).bind fun t162 => ((num_Put.f k t162 (IntKind.u64.wrap (a0_7))).bind fun t165 => (some (t165, 0)))))) else (if a0_0 = 4 then ((num_Put.f k t128 (IntKind.u64.wrap (a0_5))).bind fun t168 => (some (t168, 0))) else (some (t128, 0)))))))) else (some (([] : List Int), 1)))
theorem page_Encode.mono_l : ∀ k, (∀ y0 y1 y2 y3 y4 y5 y6 y7 y8 y9 y10 y11, LeO (page_Encode.l0 k y0 y1 y2 y3 y4 y5 y6 y7 y8 y9 y10 y11) (page_Encode.l0 (k + 1) y0 y1 y2 y3 y4 y5 y6 y7 y8 y9 y10 y11)) ∧ (∀ y0 y1 y2 y3 y4 y5 y6 y7 y8 y9 y10 y11, LeO (page_Encode.l1 k y0 y1 y2 y3 y4 y5 y6 y7 y8 y9 y10 y11) (page_Encode.l1 (k + 1) y0 y1 y2 y3 y4 y5 y6 y7 y8 y9 y10 y11))
  | 0 => ⟨fun _ _ _ _ _ _ _ _ _ _ _ _ r h => by simp [page_Encode.l0] at h, fun _ _ _ _ _ _ _ _ _ _ _ _ r h => by simp [page_Encode.l1] at h⟩
  | k + 1 => by
    obtain ⟨ih0, ih1⟩ := page_Encode.mono_l k
    refine ⟨?_, ?_⟩
    · intro y0 y1 y2 y3 y4 y5 y6 y7 y8 y9 y10 y11
      unfold page_Encode.l0
      repeat' first
      | (with_reducible exact ih0 _ _ _ _ _ _ _ _ _ _ _ _)
      | (with_reducible exact ih1 _ _ _ _ _ _ _ _ _ _ _ _)
      | (with_reducible exact num_Put.mono _ _ _)
      | (with_reducible exact num_Text.mono _ _ _)
      | (with_reducible exact page_Page_Right.mono _ _ _ _ _ _ _ _ _)
      | (with_reducible exact LeO.refl _)
      | (with_reducible exact LeO.none _)
      | (with_reducible refine LeO.ite ?_ ?_)
      | (with_reducible refine LeO.bind ?_ (fun _ => ?_))
      | exact ih0 _ _ _ _ _ _ _ _ _ _ _ _
      | exact ih1 _ _ _ _ _ _ _ _ _ _ _ _
      | exact num_Put.mono _ _ _
      | exact num_Text.mono _ _ _
      | exact page_Page_Right.mono _ _ _ _ _ _ _ _ _
      | exact LeO.none _
      | refine LeO.ite ?_ ?_
      | refine LeO.bind ?_ (fun _ => ?_)
    · intro y0 y1 y2 y3 y4 y5 y6 y7 y8 y9 y10 y11
      unfold page_Encode.l1
      repeat' first
      | (with_reducible exact ih0 _ _ _ _ _ _ _ _ _ _ _ _)
      | (with_reducible exact ih1 _ _ _ _ _ _ _ _ _ _ _ _)
      | (with_reducible exact num_Put.mono _ _ _)
      | (with_reducible exact num_Text.mono _ _ _)
      | (with_reducible exact page_Page_Right.mono _ _ _ _ _ _ _ _ _)
      | (with_reducible exact LeO.refl _)
      | (with_reducible exact LeO.none _)
      | (with_reducible refine LeO.ite ?_ ?_)
      | (with_reducible refine LeO.bind ?_ (fun _ => ?_))
      | exact ih0 _ _ _ _ _ _ _ _ _ _ _ _
      | exact ih1 _ _ _ _ _ _ _ _ _ _ _ _
      | exact num_Put.mono _ _ _
      | exact num_Text.mono _ _ _
      | exact page_Page_Right.mono _ _ _ _ _ _ _ _ _
      | exact LeO.none _
      | refine LeO.ite ?_ ?_
      | refine LeO.bind ?_ (fun _ => ?_)
theorem page_Encode.mono : ∀ a0 a1 a2 a3 a4 a5 a6 a7 a8 k, LeO (page_Encode.f k a0 a1 a2 a3 a4 a5 a6 a7 a8) (page_Encode.f (k + 1) a0 a1 a2 a3 a4 a5 a6 a7 a8) := by
  intro a0 a1 a2 a3 a4 a5 a6 a7 a8 k
  obtain ⟨ih0, ih1⟩ := page_Encode.mono_l k
  unfold page_Encode.f
  repeat' first
      | (with_reducible exact ih0 _ _ _ _ _ _ _ _ _ _ _ _)
      | (with_reducible exact ih1 _ _ _ _ _ _ _ _ _ _ _ _)
      | (with_reducible exact num_Put.mono _ _ _)
      | (with_reducible exact num_Text.mono _ _ _)
      | (with_reducible exact page_Page_Right.mono _ _ _ _ _ _ _ _ _)
      | (with_reducible exact LeO.refl _)
      | (with_reducible exact LeO.none _)
      | (with_reducible refine LeO.ite ?_ ?_)
      | (with_reducible refine LeO.bind ?_ (fun _ => ?_))
      | exact ih0 _ _ _ _ _ _ _ _ _ _ _ _
      | exact ih1 _ _ _ _ _ _ _ _ _ _ _ _
      | exact num_Put.mono _ _ _
      | exact num_Text.mono _ _ _
      | exact page_Page_Right.mono _ _ _ _ _ _ _ _ _
      | exact LeO.none _
      | refine LeO.ite ?_ ?_
      | refine LeO.bind ?_ (fun _ => ?_)
def page_Encode.T10 : Bool × List (List Nat × List Nat) := (true, [([], []), ([], []), ([0, 1], [0, 1]), ([], []), ([3], [3]), ([], []), ([4, 5], [4, 5]), ([6], [6]), ([2, 7, 2], [2, 7]), ([8, 8, 0, 1, 2, 3, 4, 5, 6, 7, 8], [0, 8])])
def page_Encode.B10 : List Nat := [0, 0, 3, 0, 8, 0, 56, 120, 255, 511]
theorem page_Encode.tab10 : rtab .any (opsOf Try.f16 10) = page_Encode.T10 := by kernel_rfl
theorem page_Encode.bits10 : waitsOk page_Encode.T10.2 page_Encode.B10 = true := by kernel_rfl
def page_Encode.T22 : Bool × List (List Nat × List Nat) := (true, [([], []), ([], []), ([1], [1]), ([2], [2]), ([0, 3], [0, 3]), ([], []), ([5], [5]), ([6], [6]), ([4, 7, 4], [4, 7]), ([], []), ([9], [9]), ([10], [10]), ([8, 11, 8], [8, 11]), ([], []), ([13], [13]), ([14], [14]), ([12, 15, 12], [12, 15]), ([16, 16, 0, 1, 2, 3, 4, 5, 6, 7, 8, 9, 10, 11, 12, 13, 14, 15, 16], [0, 16])])
def page_Encode.B22 : List Nat := [0, 0, 2, 6, 15, 0, 32, 96, 255, 0, 512, 1536, 4095, 0, 8192, 24576, 65535, 131071]
theorem page_Encode.tab22 : rtab .any (opsOf Try.f16 22) = page_Encode.T22 := by kernel_rfl
theorem page_Encode.bits22 : waitsOk page_Encode.T22.2 page_Encode.B22 = true := by kernel_rfl
set_option maxHeartbeats 8000000 in
set_option maxRecDepth 100000 in
theorem page_Encode.calls (k : Nat) (a0_0 : Int) (A0_1 : Option Addr) (c0_1 : Nat) (l0_1 : List ByteArray) (A0_2 : Option Addr) (c0_2 : Nat) (l0_2 : List ByteArray) (A0_3 : Option Addr) (c0_3 : Nat) (l0_3 : List Int) (a0_4 : Int) (a0_5 : Int) (a0_6 : Int) (a0_7 : Int) (a1 : Int) (r1 : List Int) (r2 : Int) (w : World) (hr0_1 : Kd.C Kd.string w A0_1 l0_1.length l0_1) (hc0_1 : l0_1.length ≤ c0_1) (hr0_2 : Kd.C Kd.string w A0_2 l0_2.length l0_2) (hc0_2 : l0_2.length ≤ c0_2) (hr0_3 : Kd.C (Kd.int .i64) w A0_3 l0_3.length l0_3) (hc0_3 : l0_3.length ≤ c0_3) (h : page_Encode.f k a0_0 l0_1 l0_2 l0_3 a0_4 a0_5 a0_6 a0_7 a1 = some (r1, r2)) :
    Calls Try.prog 16 #[.agg #[.int .i64 a0_0, .slice A0_1 l0_1.length c0_1, .slice A0_2 l0_2.length c0_2, .slice A0_3 l0_3.length c0_3, .int .i64 a0_4, .int .i64 a0_5, .int .i64 a0_6, .int .i64 a0_7], .int .u64 a1] w fun e w' => ∃ v0_ : Value, e = .returned (.tuple #[v0_, .int .i64 r2]) ∧ Kd.R (Kd.int .u8) 5 w' w.heap.size (fun _ => True) v0_ r1 ∧ Below w.heap.size w w' := by
  have hu27 := Try.underlying27
  have HR0_1 := Aside0.mk hr0_1
  have HC0_1 := Aside0.mk hc0_1
  clear hr0_1 hc0_1
  have HR0_2 := Aside0.mk hr0_2
  have HC0_2 := Aside0.mk hc0_2
  clear hr0_2 hc0_2
  have HR0_3 := Aside0.mk hr0_3
  have HC0_3 := Aside0.mk hc0_3
  clear hr0_3 hc0_3
  have HB := Aside0.mk (Below.refl w.heap.size w)
  have H : ((page_Page_Right.f k a0_0 l0_1 l0_2 l0_3 a0_4 a0_5 a0_6 a0_7).bind fun t124 => (if t124 = true then ((num_Put.f k ([] : List Int) (IntKind.u64.wrap (a0_0))).bind fun t125 => ((num_Put.f k t125 a1).bind fun t128 => (if a0_0 = 1 then ((num_Put.f k t128 (IntKind.u64.wrap ((l0_1.length : Int)))).bind fun t131 => (page_Encode.l0 k t131 l0_1 (l0_1.length : Int) 0 a0_0 l0_1 l0_2 l0_3 a0_4 a0_5 a0_6 a0_7)) else (if a0_0 = 2 then ((num_Put.f k t128 (IntKind.u64.wrap ((l0_3.length : Int)))).bind fun t142 => (page_Encode.l1 k t142 l0_3 (l0_3.length : Int) 0 a0_0 l0_1 l0_2 l0_3 a0_4 a0_5 a0_6 a0_7)) else (if a0_0 = 3 then ((num_Put.f k t128 (IntKind.u64.wrap (a0_4))).bind fun t156 => ((num_Put.f k t156 (IntKind.u64.wrap (a0_5))).bind fun t159 => ((num_Put.f k t159 (IntKind.u64.wrap (a0_6))).bind fun t162 => ((num_Put.f k t162 (IntKind.u64.wrap (a0_7))).bind fun t165 => (some (t165, 0)))))) else (if a0_0 = 4 then ((num_Put.f k t128 (IntKind.u64.wrap (a0_5))).bind fun t168 => (some (t168, 0))) else (some (t128, 0)))))))) else (some (([] : List Int), 1)))) = some (r1, r2) := h
  clear h
  replace H := Option.bind_eq_some_iff.mp H
  obtain ⟨t124, A30, H⟩ := H
  replace H : (if t124 = true then ((num_Put.f k ([] : List Int) (IntKind.u64.wrap (a0_0))).bind fun t125 => ((num_Put.f k t125 a1).bind fun t128 => (if a0_0 = 1 then ((num_Put.f k t128 (IntKind.u64.wrap ((l0_1.length : Int)))).bind fun t131 => (page_Encode.l0 k t131 l0_1 (l0_1.length : Int) 0 a0_0 l0_1 l0_2 l0_3 a0_4 a0_5 a0_6 a0_7)) else (if a0_0 = 2 then ((num_Put.f k t128 (IntKind.u64.wrap ((l0_3.length : Int)))).bind fun t142 => (page_Encode.l1 k t142 l0_3 (l0_3.length : Int) 0 a0_0 l0_1 l0_2 l0_3 a0_4 a0_5 a0_6 a0_7)) else (if a0_0 = 3 then ((num_Put.f k t128 (IntKind.u64.wrap (a0_4))).bind fun t156 => ((num_Put.f k t156 (IntKind.u64.wrap (a0_5))).bind fun t159 => ((num_Put.f k t159 (IntKind.u64.wrap (a0_6))).bind fun t162 => ((num_Put.f k t162 (IntKind.u64.wrap (a0_7))).bind fun t165 => (some (t165, 0)))))) else (if a0_0 = 4 then ((num_Put.f k t128 (IntKind.u64.wrap (a0_5))).bind fun t168 => (some (t168, 0))) else (some (t128, 0)))))))) else (some (([] : List Int), 1))) = some (r1, r2) := H
  have A3 := Aside0.mk A30
  clear A30
  by_cases c4 : t124 = true
  · subst c4
    have H1 : ((num_Put.f k ([] : List Int) (IntKind.u64.wrap (a0_0))).bind fun t125 => ((num_Put.f k t125 a1).bind fun t128 => (if a0_0 = 1 then ((num_Put.f k t128 (IntKind.u64.wrap ((l0_1.length : Int)))).bind fun t131 => (page_Encode.l0 k t131 l0_1 (l0_1.length : Int) 0 a0_0 l0_1 l0_2 l0_3 a0_4 a0_5 a0_6 a0_7)) else (if a0_0 = 2 then ((num_Put.f k t128 (IntKind.u64.wrap ((l0_3.length : Int)))).bind fun t142 => (page_Encode.l1 k t142 l0_3 (l0_3.length : Int) 0 a0_0 l0_1 l0_2 l0_3 a0_4 a0_5 a0_6 a0_7)) else (if a0_0 = 3 then ((num_Put.f k t128 (IntKind.u64.wrap (a0_4))).bind fun t156 => ((num_Put.f k t156 (IntKind.u64.wrap (a0_5))).bind fun t159 => ((num_Put.f k t159 (IntKind.u64.wrap (a0_6))).bind fun t162 => ((num_Put.f k t162 (IntKind.u64.wrap (a0_7))).bind fun t165 => (some (t165, 0)))))) else (if a0_0 = 4 then ((num_Put.f k t128 (IntKind.u64.wrap (a0_5))).bind fun t168 => (some (t168, 0))) else (some (t128, 0)))))))) = some (r1, r2) := by rw [if_pos rfl] at H; exact H
    clear H
    have H := H1
    clear H1
    replace H := Option.bind_eq_some_iff.mp H
    obtain ⟨t125, A50, H⟩ := H
    replace H : ((num_Put.f k t125 a1).bind fun t128 => (if a0_0 = 1 then ((num_Put.f k t128 (IntKind.u64.wrap ((l0_1.length : Int)))).bind fun t131 => (page_Encode.l0 k t131 l0_1 (l0_1.length : Int) 0 a0_0 l0_1 l0_2 l0_3 a0_4 a0_5 a0_6 a0_7)) else (if a0_0 = 2 then ((num_Put.f k t128 (IntKind.u64.wrap ((l0_3.length : Int)))).bind fun t142 => (page_Encode.l1 k t142 l0_3 (l0_3.length : Int) 0 a0_0 l0_1 l0_2 l0_3 a0_4 a0_5 a0_6 a0_7)) else (if a0_0 = 3 then ((num_Put.f k t128 (IntKind.u64.wrap (a0_4))).bind fun t156 => ((num_Put.f k t156 (IntKind.u64.wrap (a0_5))).bind fun t159 => ((num_Put.f k t159 (IntKind.u64.wrap (a0_6))).bind fun t162 => ((num_Put.f k t162 (IntKind.u64.wrap (a0_7))).bind fun t165 => (some (t165, 0)))))) else (if a0_0 = 4 then ((num_Put.f k t128 (IntKind.u64.wrap (a0_5))).bind fun t168 => (some (t168, 0))) else (some (t128, 0))))))) = some (r1, r2) := H
    have A5 := Aside0.mk A50
    clear A50
    replace H := Option.bind_eq_some_iff.mp H
    obtain ⟨t128, A60, H⟩ := H
    replace H : (if a0_0 = 1 then ((num_Put.f k t128 (IntKind.u64.wrap ((l0_1.length : Int)))).bind fun t131 => (page_Encode.l0 k t131 l0_1 (l0_1.length : Int) 0 a0_0 l0_1 l0_2 l0_3 a0_4 a0_5 a0_6 a0_7)) else (if a0_0 = 2 then ((num_Put.f k t128 (IntKind.u64.wrap ((l0_3.length : Int)))).bind fun t142 => (page_Encode.l1 k t142 l0_3 (l0_3.length : Int) 0 a0_0 l0_1 l0_2 l0_3 a0_4 a0_5 a0_6 a0_7)) else (if a0_0 = 3 then ((num_Put.f k t128 (IntKind.u64.wrap (a0_4))).bind fun t156 => ((num_Put.f k t156 (IntKind.u64.wrap (a0_5))).bind fun t159 => ((num_Put.f k t159 (IntKind.u64.wrap (a0_6))).bind fun t162 => ((num_Put.f k t162 (IntKind.u64.wrap (a0_7))).bind fun t165 => (some (t165, 0)))))) else (if a0_0 = 4 then ((num_Put.f k t128 (IntKind.u64.wrap (a0_5))).bind fun t168 => (some (t168, 0))) else (some (t128, 0)))))) = some (r1, r2) := H
    have A6 := Aside0.mk A60
    clear A60
    by_cases c7 : a0_0 = 1
    · rw [if_pos c7] at H
      have c7b0 : (a0_0 == 1) = true := beq_iff_eq.mpr c7
      have c7b1 : (a0_0 != 1) = false := bne_eq_false_iff_eq.mpr c7
      clear c7
      replace H := Option.bind_eq_some_iff.mp H
      obtain ⟨t131, A80, H⟩ := H
      replace H : (page_Encode.l0 k t131 l0_1 (l0_1.length : Int) 0 a0_0 l0_1 l0_2 l0_3 a0_4 a0_5 a0_6 a0_7) = some (r1, r2) := H
      have A8 := Aside0.mk A80
      clear A80
      have H' := Aside0.mk H
      clear H
      go_enter Try.func16, Try.ntmps16
      go_wp2_with (first | ((with_reducible refine gate_dst (N := 2) rfl ?_); refine box_event ?hg (N := 2) ?hd (cs := #[.int .i64 a0_0, .slice A0_1 l0_1.length c0_1, .slice A0_2 l0_2.length c0_2, .slice A0_3 l0_3.length c0_3, .int .i64 a0_4, .int .i64 a0_5, .int .i64 a0_6, .int .i64 a0_7]) (t := 27) ?hr ?_; (case hd => rfl); (case hg => rfl); (case hr => first | (go_simp; done) | (go_simp; rfl)); intro gb123 hg w9 hbox hb; have n0_ := Aside0.mk (below_step (by repeat (first | (with_reducible first | exact HB.out | apply below_alloc | apply pw_below_drewN | apply below_drew1) | exact HB.out)) hb); have n1_ := Aside0.mk (hbox); have n2_ := Aside0.mk ((by rw [hg]; exact (below_size (by repeat (first | (with_reducible first | exact HB.out | apply below_alloc | apply pw_below_drewN | apply below_drew1) | exact HB.out))) : w.heap.size ≤ gb123)); have n3_ := Aside0.mk ((by rw [hg]; exact (below_size (by repeat (first | (with_reducible first | exact HB.out | apply below_alloc | apply pw_below_drewN | apply below_drew1) | exact HB.out))) : w.heap.size ≤ gb123)); clear HB; have HB := n0_; have BK123 := n1_; have GW123 := n2_; have GE123 := n3_; clear n0_ n1_ n2_ n3_; clear hb hbox hg; have hcz10_0 : w9.cell? ⟨gb123, 0, none⟩ = some (.int .i64 a0_0) := (blk_cell BK123.out 0).trans rfl; have hcz10_1 : w9.cell? ⟨gb123, 1, none⟩ = some (.slice A0_1 l0_1.length c0_1) := (blk_cell BK123.out 1).trans rfl; have hcz10_2 : w9.cell? ⟨gb123, 2, none⟩ = some (.slice A0_2 l0_2.length c0_2) := (blk_cell BK123.out 2).trans rfl; have hcz10_3 : w9.cell? ⟨gb123, 3, none⟩ = some (.slice A0_3 l0_3.length c0_3) := (blk_cell BK123.out 3).trans rfl; have hcz10_4 : w9.cell? ⟨gb123, 4, none⟩ = some (.int .i64 a0_4) := (blk_cell BK123.out 4).trans rfl; have hcz10_5 : w9.cell? ⟨gb123, 5, none⟩ = some (.int .i64 a0_5) := (blk_cell BK123.out 5).trans rfl; have hcz10_6 : w9.cell? ⟨gb123, 6, none⟩ = some (.int .i64 a0_6) := (blk_cell BK123.out 6).trans rfl; have hcz10_7 : w9.cell? ⟨gb123, 7, none⟩ = some (.int .i64 a0_7) := (blk_cell BK123.out 7).trans rfl; have hfz10_0 := blk_frozen BK123.out 0; have hfz10_1 := blk_frozen BK123.out 1; have hfz10_2 := blk_frozen BK123.out 2; have hfz10_3 := blk_frozen BK123.out 3; have hfz10_4 := blk_frozen BK123.out 4; have hfz10_5 := blk_frozen BK123.out 5; have hfz10_6 := blk_frozen BK123.out 6; have hfz10_7 := blk_frozen BK123.out 7) | ((with_reducible refine gate_callee (f := 17) rfl ?_); refine goesL_ (some 12) rfl rfl Try.func17 (by kernel_rfl) rfl #[.agg #[.int .i64 a0_0, .slice A0_1 l0_1.length c0_1, .slice A0_2 l0_2.length c0_2, .slice A0_3 l0_3.length c0_3, .int .i64 a0_4, .int .i64 a0_5, .int .i64 a0_6, .int .i64 a0_7]] rfl (by (try simp only [List.map_toArray, List.map_cons, List.map_nil]); first | done | rfl | (simp only [List.length_drop, List.length_take]; rfl)) ?_; (with_reducible refine (page_Page_Right.calls k a0_0 _ _ l0_1 _ _ l0_2 _ _ l0_3 a0_4 a0_5 a0_6 a0_7 true _ ?side1 ?side2 ?side3 ?side4 ?side5 ?side6 A3.out).mono ?_); (case side1 => repeat (first | exact (Kd.C_below HR0_1.out HB.out) | (with_reducible refine Kd.C_alloc ?_ _) | (with_reducible refine Kd.C_drewN ?_ _) | (with_reducible refine Kd.C_drew ?_))); (case side2 => exact HC0_1.out); (case side3 => repeat (first | exact (Kd.C_below HR0_2.out HB.out) | (with_reducible refine Kd.C_alloc ?_ _) | (with_reducible refine Kd.C_drewN ?_ _) | (with_reducible refine Kd.C_drew ?_))); (case side4 => exact HC0_2.out); (case side5 => repeat (first | exact (Kd.C_below HR0_3.out HB.out) | (with_reducible refine Kd.C_alloc ?_ _) | (with_reducible refine Kd.C_drewN ?_ _) | (with_reducible refine Kd.C_drew ?_))); (case side6 => exact HC0_3.out); rintro e w11 ⟨rfl, hb⟩; refine ⟨_, rfl, ?_⟩; have n0_ := Aside0.mk (blk_below (g := gb123) (o := .cells #[.int .i64 a0_0, .slice A0_1 l0_1.length c0_1, .slice A0_2 l0_2.length c0_2, .slice A0_3 l0_3.length c0_3, .int .i64 a0_4, .int .i64 a0_5, .int .i64 a0_6, .int .i64 a0_7] 27 (0, 0)) (by (with_reducible repeat (first | refine blk_drewN ?_ _ | refine blk_drew ?_ | refine blk_alloc ?_ _)); exact BK123.out) hb); have n1_ := Aside0.mk (below_step (by repeat (first | (with_reducible first | exact HB.out | apply below_alloc | apply pw_below_drewN | apply below_drew1 | refine below_set ?_ GE123.out) | exact HB.out)) hb); clear BK123; clear HB; have BK123 := n0_; have HB := n1_; clear n0_ n1_; (try clear hb); (try clear hb2); (try clear hk); (try clear hi); have hcz12_0 : w11.cell? ⟨gb123, 0, none⟩ = some (.int .i64 a0_0) := (blk_cell BK123.out 0).trans rfl; have hcz12_1 : w11.cell? ⟨gb123, 1, none⟩ = some (.slice A0_1 l0_1.length c0_1) := (blk_cell BK123.out 1).trans rfl; have hcz12_2 : w11.cell? ⟨gb123, 2, none⟩ = some (.slice A0_2 l0_2.length c0_2) := (blk_cell BK123.out 2).trans rfl; have hcz12_3 : w11.cell? ⟨gb123, 3, none⟩ = some (.slice A0_3 l0_3.length c0_3) := (blk_cell BK123.out 3).trans rfl; have hcz12_4 : w11.cell? ⟨gb123, 4, none⟩ = some (.int .i64 a0_4) := (blk_cell BK123.out 4).trans rfl; have hcz12_5 : w11.cell? ⟨gb123, 5, none⟩ = some (.int .i64 a0_5) := (blk_cell BK123.out 5).trans rfl; have hcz12_6 : w11.cell? ⟨gb123, 6, none⟩ = some (.int .i64 a0_6) := (blk_cell BK123.out 6).trans rfl; have hcz12_7 : w11.cell? ⟨gb123, 7, none⟩ = some (.int .i64 a0_7) := (blk_cell BK123.out 7).trans rfl; have hfz12_0 := blk_frozen BK123.out 0; have hfz12_1 := blk_frozen BK123.out 1; have hfz12_2 := blk_frozen BK123.out 2; have hfz12_3 := blk_frozen BK123.out 3; have hfz12_4 := blk_frozen BK123.out 4; have hfz12_5 := blk_frozen BK123.out 5; have hfz12_6 := blk_frozen BK123.out 6; have hfz12_7 := blk_frozen BK123.out 7) | ((with_reducible refine gate_callee (f := 35) rfl ?_); refine goesL_ (some 17) rfl rfl Try.func35 (by kernel_rfl) rfl #[.slice none 0 0, .int .u64 (IntKind.u64.wrap (a0_0))] rfl (by (try simp only [List.map_toArray, List.map_cons, List.map_nil]); first | done | rfl | (simp only [List.length_drop, List.length_take]; rfl)) ?_; (refine (num_Put.calls k (fun k_ => some k_ = (.slice none 0 0 : Value).ownBlock) (.slice none 0 0) ([] : List Int) (IntKind.u64.wrap (a0_0)) t125 w _ ?side1 ?side2 A5.out).mono ?_); (case side1 => repeat (first | (with_reducible first | exact HB.out | apply below_alloc | apply pw_below_drewN | apply below_drew1 | refine below_set ?_ GE123.out) | exact HB.out)); (case side2 => exact Kd.R_nil _ _ _ _ _); rintro e w13 ⟨v126, rfl, ho0, hb, hkp⟩; refine ⟨_, rfl, ?_⟩; have n0_ := Aside0.mk (blk_kept (by (with_reducible repeat (first | refine blk_drewN ?_ _ | refine blk_drew ?_ | refine blk_alloc ?_ _)); exact BK123.out) hkp (fun hs_ => (fun e_ => by simp [Value.ownBlock] at e_) hs_)); have n1_ := Aside0.mk (Kd.R_mono (ok' := fun k_ => True) ho0 (fun k_ hk_ => trivial)); have n2_ := Aside0.mk (hb); clear BK123; clear HB; have BK123 := n0_; have HO127 := n1_; have HB := n2_; clear n0_ n1_ n2_; (try clear hb); (try clear hkp); (try clear ho0); obtain ⟨Ao14, co14, eo14⟩ := Kd.R_slice HO127.out; subst eo14) | ((with_reducible refine gate_callee (f := 35) rfl ?_); refine goesL_ (some 19) rfl rfl Try.func35 (by kernel_rfl) rfl #[.slice Ao14 t125.length co14, .int .u64 a1] rfl (by (try simp only [List.map_toArray, List.map_cons, List.map_nil]); first | done | rfl | (simp only [List.length_drop, List.length_take]; rfl)) ?_; (with_reducible refine (num_Put.calls k (fun k_ => some k_ = (.slice Ao14 t125.length co14 : Value).ownBlock) (.slice Ao14 t125.length co14) t125 a1 t128 w _ ?side1 ?side2 A6.out).mono ?_); (case side1 => repeat (first | (with_reducible first | exact HB.out | apply below_alloc | apply pw_below_drewN | apply below_drew1 | refine below_set ?_ GE123.out) | exact HB.out)); (case side2 => exact Kd.R_tight rfl HO127.out); rintro e w15 ⟨v129, rfl, ho0, hb, hkp⟩; refine ⟨_, rfl, ?_⟩; have n0_ := Aside0.mk (blk_kept (by (with_reducible repeat (first | refine blk_drewN ?_ _ | refine blk_drew ?_ | refine blk_alloc ?_ _)); exact BK123.out) hkp (fun hs_ => (fun e_ => (Kd.R_ne HO127.out BK123.out (by decide)) e_) hs_)); have n1_ := Aside0.mk (Kd.R_mono (ok' := fun k_ => True) ho0 (fun k_ hk_ => trivial)); have n2_ := Aside0.mk (hb); clear BK123; clear HB; clear HO127; have BK123 := n0_; have HO130 := n1_; have HB := n2_; clear n0_ n1_ n2_; (try clear hb); (try clear hkp); (try clear ho0); have hcz16_0 : w15.cell? ⟨gb123, 0, none⟩ = some (.int .i64 a0_0) := (blk_cell BK123.out 0).trans rfl; have hcz16_1 : w15.cell? ⟨gb123, 1, none⟩ = some (.slice A0_1 l0_1.length c0_1) := (blk_cell BK123.out 1).trans rfl; have hcz16_2 : w15.cell? ⟨gb123, 2, none⟩ = some (.slice A0_2 l0_2.length c0_2) := (blk_cell BK123.out 2).trans rfl; have hcz16_3 : w15.cell? ⟨gb123, 3, none⟩ = some (.slice A0_3 l0_3.length c0_3) := (blk_cell BK123.out 3).trans rfl; have hcz16_4 : w15.cell? ⟨gb123, 4, none⟩ = some (.int .i64 a0_4) := (blk_cell BK123.out 4).trans rfl; have hcz16_5 : w15.cell? ⟨gb123, 5, none⟩ = some (.int .i64 a0_5) := (blk_cell BK123.out 5).trans rfl; have hcz16_6 : w15.cell? ⟨gb123, 6, none⟩ = some (.int .i64 a0_6) := (blk_cell BK123.out 6).trans rfl; have hcz16_7 : w15.cell? ⟨gb123, 7, none⟩ = some (.int .i64 a0_7) := (blk_cell BK123.out 7).trans rfl; have hfz16_0 := blk_frozen BK123.out 0; have hfz16_1 := blk_frozen BK123.out 1; have hfz16_2 := blk_frozen BK123.out 2; have hfz16_3 := blk_frozen BK123.out 3; have hfz16_4 := blk_frozen BK123.out 4; have hfz16_5 := blk_frozen BK123.out 5; have hfz16_6 := blk_frozen BK123.out 6; have hfz16_7 := blk_frozen BK123.out 7; obtain ⟨Ao17, co17, eo17⟩ := Kd.R_slice HO130.out; subst eo17) | ((with_reducible refine gate_callee (f := 35) rfl ?_); refine goesL_ (some 29) rfl rfl Try.func35 (by kernel_rfl) rfl #[.slice Ao17 t128.length co17, .int .u64 (IntKind.u64.wrap ((l0_1.length : Int)))] rfl (by (try simp only [List.map_toArray, List.map_cons, List.map_nil]); first | done | rfl | (simp only [List.length_drop, List.length_take]; rfl)) ?_; (with_reducible refine (num_Put.calls k (fun k_ => some k_ = (.slice Ao17 t128.length co17 : Value).ownBlock) (.slice Ao17 t128.length co17) t128 (IntKind.u64.wrap ((l0_1.length : Int))) t131 w _ ?side1 ?side2 A8.out).mono ?_); (case side1 => repeat (first | (with_reducible first | exact HB.out | apply below_alloc | apply pw_below_drewN | apply below_drew1 | refine below_set ?_ GE123.out) | exact HB.out)); (case side2 => exact Kd.R_tight rfl HO130.out); rintro e w18 ⟨v132, rfl, ho0, hb, hkp⟩; refine ⟨_, rfl, ?_⟩; have n0_ := Aside0.mk (blk_kept (by (with_reducible repeat (first | refine blk_drewN ?_ _ | refine blk_drew ?_ | refine blk_alloc ?_ _)); exact BK123.out) hkp (fun hs_ => (fun e_ => (Kd.R_ne HO130.out BK123.out (by decide)) e_) hs_)); have n1_ := Aside0.mk (Kd.R_mono (ok' := fun k_ => True) ho0 (fun k_ hk_ => trivial)); have n2_ := Aside0.mk (hb); clear BK123; clear HB; clear HO130; have BK123 := n0_; have HO133 := n1_; have HB := n2_; clear n0_ n1_ n2_; (try clear hb); (try clear hkp); (try clear ho0); have hcz19_0 : w18.cell? ⟨gb123, 0, none⟩ = some (.int .i64 a0_0) := (blk_cell BK123.out 0).trans rfl; have hcz19_1 : w18.cell? ⟨gb123, 1, none⟩ = some (.slice A0_1 l0_1.length c0_1) := (blk_cell BK123.out 1).trans rfl; have hcz19_2 : w18.cell? ⟨gb123, 2, none⟩ = some (.slice A0_2 l0_2.length c0_2) := (blk_cell BK123.out 2).trans rfl; have hcz19_3 : w18.cell? ⟨gb123, 3, none⟩ = some (.slice A0_3 l0_3.length c0_3) := (blk_cell BK123.out 3).trans rfl; have hcz19_4 : w18.cell? ⟨gb123, 4, none⟩ = some (.int .i64 a0_4) := (blk_cell BK123.out 4).trans rfl; have hcz19_5 : w18.cell? ⟨gb123, 5, none⟩ = some (.int .i64 a0_5) := (blk_cell BK123.out 5).trans rfl; have hcz19_6 : w18.cell? ⟨gb123, 6, none⟩ = some (.int .i64 a0_6) := (blk_cell BK123.out 6).trans rfl; have hcz19_7 : w18.cell? ⟨gb123, 7, none⟩ = some (.int .i64 a0_7) := (blk_cell BK123.out 7).trans rfl; have hfz19_0 := blk_frozen BK123.out 0; have hfz19_1 := blk_frozen BK123.out 1; have hfz19_2 := blk_frozen BK123.out 2; have hfz19_3 := blk_frozen BK123.out 3; have hfz19_4 := blk_frozen BK123.out 4; have hfz19_5 := blk_frozen BK123.out 5; have hfz19_6 := blk_frozen BK123.out 6; have hfz19_7 := blk_frozen BK123.out 7))
      go_loopg [6, 33] k (fun kq v6 v33 w' => ∃ (x6_1 : List Int) (x33_1 : Int), v33 = .int .i64 x33_1 ∧ Aside0 (page_Encode.l0 kq x6_1 l0_1 (l0_1.length : Int) x33_1 a0_0 l0_1 l0_2 l0_3 a0_4 a0_5 a0_6 a0_7 = some (r1, r2)) ∧ Aside0 (kq ≤ k) ∧ Aside0 (Kd.R (Kd.int .u8) 5 w' w.heap.size (fun _ => True) v6 x6_1) ∧ Aside0 (w'.heap[gb123]? = some (.cells #[.int .i64 a0_0, (.slice A0_1 l0_1.length c0_1), (.slice A0_2 l0_2.length c0_2), (.slice A0_3 l0_3.length c0_3), .int .i64 a0_4, .int .i64 a0_5, .int .i64 a0_6, .int .i64 a0_7] 27 (0, 0))) ∧ Aside0 (Below w.heap.size w w'))
      case atStart => exact ⟨(t131), (0), (by first | rfl | (simp; done) | (simp [*]; done)), H', ⟨Nat.le_refl _⟩, ⟨by (with_reducible repeat (first | apply Kd.R_alloc | apply Kd.R_drewN | apply Kd.R_drew)); exact HO133.out⟩, ⟨by (with_reducible repeat (first | refine blk_drewN ?_ _ | refine blk_drew ?_ | refine blk_alloc ?_ _)); exact BK123.out⟩, ⟨by repeat (first | (with_reducible first | exact HB.out | apply below_alloc | apply pw_below_drewN | apply below_drew1 | refine below_set ?_ GE123.out) | exact HB.out)⟩⟩
      case round =>
        clear H'
        try clear c1
        try clear p2
        try clear c3
        try clear c4
        try clear c7
        try clear c7b0
        try clear c7b1
        try clear c16
        try clear c17
        try clear hcz10_0
        try clear hcz10_1
        try clear hcz10_2
        try clear hcz10_3
        try clear hcz10_4
        try clear hcz10_5
        try clear hcz10_6
        try clear hcz10_7
        try clear hcz12_0
        try clear hcz12_1
        try clear hcz12_2
        try clear hcz12_3
        try clear hcz12_4
        try clear hcz12_5
        try clear hcz12_6
        try clear hcz12_7
        try clear hcz16_0
        try clear hcz16_1
        try clear hcz16_2
        try clear hcz16_3
        try clear hcz16_4
        try clear hcz16_5
        try clear hcz16_6
        try clear hcz16_7
        try clear hcz19_0
        try clear hcz19_1
        try clear hcz19_2
        try clear hcz19_3
        try clear hcz19_4
        try clear hcz19_5
        try clear hcz19_6
        try clear hcz19_7
        try clear hfz10_0
        try clear hfz10_1
        try clear hfz10_2
        try clear hfz10_3
        try clear hfz10_4
        try clear hfz10_5
        try clear hfz10_6
        try clear hfz10_7
        try clear hfz12_0
        try clear hfz12_1
        try clear hfz12_2
        try clear hfz12_3
        try clear hfz12_4
        try clear hfz12_5
        try clear hfz12_6
        try clear hfz12_7
        try clear hfz16_0
        try clear hfz16_1
        try clear hfz16_2
        try clear hfz16_3
        try clear hfz16_4
        try clear hfz16_5
        try clear hfz16_6
        try clear hfz16_7
        try clear hfz19_0
        try clear hfz19_1
        try clear hfz19_2
        try clear hfz19_3
        try clear hfz19_4
        try clear hfz19_5
        try clear hfz19_6
        try clear hfz19_7
        obtain ⟨x6_1, x33_1, rfl, HA, HK1, HO_6, BK123, HB⟩ := hrel
        cases gk with
        | zero => exact absurd HA.out (by simp [page_Encode.l0])
        | succ k1 =>
          have H := HA.out
          clear HA
          simp only [page_Encode.l0] at H
          by_cases c20 : x33_1 < (l0_1.length : Int)
          · rw [if_pos c20] at H
            have c20b0 : decide (x33_1 < (l0_1.length : Int)) = true := decide_eq_true c20
            clear c20
            by_cases c21 : 0 ≤ x33_1
            · rw [if_pos c21] at H
              have c21b0 : decide (0 ≤ x33_1) = true := decide_eq_true c21
              clear c21
              by_cases c22 : x33_1 < (l0_1.length : Int)
              · rw [if_pos c22] at H
                have c22b0 : decide (x33_1 < (l0_1.length : Int)) = true := decide_eq_true c22
                clear c22
                replace H := Option.bind_eq_some_iff.mp H
                obtain ⟨t135, A230, H⟩ := H
                replace H : (if x33_1 < (l0_2.length : Int) then ((num_Text.f k1 t135 (rdOf ByteArray.empty l0_2 x33_1)).bind fun t139 => (page_Encode.l0 k1 t139 l0_1 (l0_1.length : Int) (wrap64 (x33_1 + 1)) a0_0 l0_1 l0_2 l0_3 a0_4 a0_5 a0_6 a0_7)) else (none)) = some (r1, r2) := H
                have A23 := Aside0.mk A230
                clear A230
                by_cases c24 : x33_1 < (l0_2.length : Int)
                · rw [if_pos c24] at H
                  have c24b0 : decide (x33_1 < (l0_2.length : Int)) = true := decide_eq_true c24
                  clear c24
                  replace H := Option.bind_eq_some_iff.mp H
                  obtain ⟨t139, A250, H⟩ := H
                  replace H : (page_Encode.l0 k1 t139 l0_1 (l0_1.length : Int) (wrap64 (x33_1 + 1)) a0_0 l0_1 l0_2 l0_3 a0_4 a0_5 a0_6 a0_7) = some (r1, r2) := H
                  have A25 := Aside0.mk A250
                  clear A250
                  have H' := Aside0.mk H
                  clear H
                  have p134 : 0 ≤ (x33_1 : Int) := of_decide_eq_true (by first | (with_reducible assumption) | assumption)
                  have q134 : x33_1 < (l0_1.length : Int) := of_decide_eq_true (by first | (with_reducible assumption) | assumption)
                  obtain ⟨ad134, e134, hx134_0⟩ := Kd.at_string HR0_1.out x33_1 p134 q134
                  cases e134
                  replace hx134_0 := (HB.out.cell (World.block_lt_of_cell? w _ hx134_0)).trans hx134_0
                  replace p134 := eq_true p134
                  replace q134 := eq_true q134
                  try go_wp2
                  have n0_ := Aside0.mk (Kd.R_drew HO_6.out)
                  have n1_ := Aside0.mk (blk_drew BK123.out)
                  have n2_ := Aside0.mk (below_drew1 HB.out)
                  clear HO_6
                  clear BK123
                  clear HB
                  have HO_6 := n0_
                  have BK123 := n1_
                  have HB := n2_
                  clear n0_ n1_ n2_
                  have p138 : 0 ≤ (x33_1 : Int) := of_decide_eq_true (by first | (with_reducible assumption) | assumption)
                  have q138 : x33_1 < (l0_2.length : Int) := of_decide_eq_true (by first | (with_reducible assumption) | assumption)
                  obtain ⟨ad138, e138, hx138_0⟩ := Kd.at_string HR0_2.out x33_1 p138 q138
                  have hw138_0 := hx138_0
                  cases e138
                  replace hx138_0 := (HB.out.cell (World.block_lt_of_cell? w _ hx138_0)).trans hx138_0
                  replace p138 := eq_true p138
                  replace q138 := eq_true q138
                  obtain ⟨Ao27, co27, eo27⟩ := Kd.R_slice HO_6.out
                  (first | subst eo27 | (injection eo27 with f1_ f2_ f3_; have f4_ := f1_.symm; have f5_ := f3_.symm; clear f1_ f2_ f3_; subst f4_; subst f5_))
                  refine start_ (n := 10) (S := fun w' => w'.cell? ⟨gb123, 0, none⟩ = some (.int .i64 a0_0) ∧ w'.cell? ⟨gb123, 1, none⟩ = some (.slice (some ad134) l0_1.length c0_1) ∧ w'.cell? ⟨gb123, 2, none⟩ = some (.slice (some ad138) l0_2.length c0_2) ∧ w'.cell? ⟨gb123, 3, none⟩ = some (.slice A0_3 l0_3.length c0_3) ∧ w'.cell? ⟨gb123, 4, none⟩ = some (.int .i64 a0_4) ∧ w'.cell? ⟨gb123, 5, none⟩ = some (.int .i64 a0_5) ∧ w'.cell? ⟨gb123, 6, none⟩ = some (.int .i64 a0_6) ∧ w'.cell? ⟨gb123, 7, none⟩ = some (.int .i64 a0_7) ∧ w'.cell? (ad138.add (x33_1).toNat) = some (.string (rdOf ByteArray.empty l0_2 x33_1))) (ds := []) #[false, false, false, false, false, false, false, false, false, false] (by kernel_rfl) rfl rfl ⟨(blk_cell BK123.out 0).trans rfl, (blk_cell BK123.out 1).trans rfl, (blk_cell BK123.out 2).trans rfl, (blk_cell BK123.out 3).trans rfl, (blk_cell BK123.out 4).trans rfl, (blk_cell BK123.out 5).trans rfl, (blk_cell BK123.out 6).trans rfl, (blk_cell BK123.out 7).trans rfl, ((HB.out.cell (World.block_lt_of_cell? w _ hw138_0)).trans hw138_0)⟩ (fun hHeld => ?_); refine with_tabW page_Encode.tab10 page_Encode.bits10 (fun HT_ HW_ => ?_)
                  generalize wr.drew = w26 at HO_6 BK123 HB hx138_0 hHeld ⊢
                  refine pure_ (i := 0) (N := some 38) (v := ?_) (a' := ?_) #[true, false, false, false, false, false, false, false, false, false] rfl rfl (any_of HT_.out (by kernel_rfl)) (fun _ _ _ h => h) (Or.inl ⟨by rfl, ?_⟩) ?_ ?_
                  rotate_left
                  · intro w'
                    go_simp
                    with_reducible rfl
                  rotate_left
                  · simp only [Act.put, List.setIfInBounds_toArray, List.set_cons_zero, List.set_cons_succ, i64_w, i32_w]
                    rfl
                  refine pure_ (i := 1) (N := some 39) (v := ?_) (a' := ?_) #[true, true, false, false, false, false, false, false, false, false] rfl rfl (any_of HT_.out (by kernel_rfl)) (fun _ _ _ h => h) (Or.inl ⟨by rfl, ?_⟩) ?_ ?_
                  rotate_left
                  · intro w'
                    go_simp
                    with_reducible rfl
                  rotate_left
                  · simp only [Act.put, List.setIfInBounds_toArray, List.set_cons_zero, List.set_cons_succ, i64_w, i32_w]
                    rfl
                  refine pure_ (i := 3) (N := some 41) (v := ?_) (a' := ?_) #[true, true, false, true, false, false, false, false, false, false] rfl rfl (any_of HT_.out (by kernel_rfl)) (fun _ _ _ h => h) (Or.inl ⟨by rfl, ?_⟩) ?_ ?_
                  rotate_left
                  · intro w'
                    go_simp
                    with_reducible rfl
                  rotate_left
                  · simp only [Act.put, List.setIfInBounds_toArray, List.set_cons_zero, List.set_cons_succ, i64_w, i32_w]
                    rfl
                  refine pure_ (i := 5) (N := some 43) (v := ?_) (a' := ?_) #[true, true, false, true, false, true, false, false, false, false] rfl rfl (any_of HT_.out (by kernel_rfl)) (fun _ _ _ h => h) (Or.inl ⟨by rfl, ?_⟩) ?_ ?_
                  rotate_left
                  · intro w'
                    go_simp
                    with_reducible rfl
                  rotate_left
                  · simp only [Act.put, List.setIfInBounds_toArray, List.set_cons_zero, List.set_cons_succ, i64_w, i32_w]
                    rfl
                  refine take_ (i := 4) (N := some 42) (v := ?_) (a' := ?_) #[true, true, false, true, true, true, false, false, false, false] rfl rfl (take_ofW HT_.out HW_.out (by kernel_rfl)) (fun _ _ _ h => h) (Or.inl ⟨by rfl, ?_⟩) hHeld ?_ ?_
                  rotate_left
                  · rintro w' ⟨s0, s1, s2, s3, s4, s5, s6, s7, s8⟩
                    go_simp
                    with_reducible rfl
                  rotate_left
                  · simp only [Act.put, List.setIfInBounds_toArray, List.set_cons_zero, List.set_cons_succ, i64_w, i32_w]
                    rfl
                  refine pure_ (i := 6) (N := some 44) (v := ?_) (a' := ?_) #[true, true, false, true, true, true, true, false, false, false] rfl rfl (any_of HT_.out (by kernel_rfl)) (fun _ _ _ h => h) (Or.inl ⟨by rfl, ?_⟩) ?_ ?_
                  rotate_left
                  · intro w'
                    go_simp
                    with_reducible rfl
                  rotate_left
                  · simp only [Act.put, List.setIfInBounds_toArray, List.set_cons_zero, List.set_cons_succ, i64_w, i32_w]
                    rfl
                  refine take_ (i := 7) (N := some 45) (v := ?_) (a' := ?_) #[true, true, false, true, true, true, true, true, false, false] rfl rfl (take_ofW HT_.out HW_.out (by kernel_rfl)) (fun _ _ _ h => h) (Or.inl ⟨by rfl, ?_⟩) hHeld ?_ ?_
                  rotate_left
                  · rintro w' ⟨s0, s1, s2, s3, s4, s5, s6, s7, s8⟩
                    go_simp
                    with_reducible rfl
                  rotate_left
                  · simp only [Act.put, List.setIfInBounds_toArray, List.set_cons_zero, List.set_cons_succ, i64_w, i32_w]
                    rfl
                  refine one_ (i := 2) (N := some 40) #[true, true, true, true, true, true, true, true, false, false] rfl rfl (one_of HT_.out (by kernel_rfl)) (by decide) (fun K hK => ?_)
                  refine goes_ Try.func36 (by kernel_rfl) rfl #[.slice Ao27 x6_1.length co27, .string (rdOf ByteArray.empty l0_1 x33_1)] (by rfl) rfl rfl (by (try simp only [List.map_toArray, List.map_cons, List.map_nil]); first | done | rfl | (simp only [List.length_drop, List.length_take]; rfl)) ?_
                  with_reducible refine (num_Text.calls k1 (fun k_ => some k_ = (.slice Ao27 x6_1.length co27 : Value).ownBlock) (.slice Ao27 x6_1.length co27) x6_1 (rdOf ByteArray.empty l0_1 x33_1) t135 w _ ?side1 ?side2 A23.out).mono ?_
                  (case side1 => repeat (first | (with_reducible first | exact HB.out | apply below_alloc | apply pw_below_drewN | apply below_drew1 | refine below_set ?_ GE123.out) | exact HB.out))
                  (case side2 => exact Kd.R_tight rfl HO_6.out)
                  rintro e w28 ⟨v136, rfl, ho0, hb, hkp⟩
                  refine ⟨_, rfl, ?_⟩
                  have n0_ := Aside0.mk (blk_kept (by (with_reducible repeat (first | refine blk_drewN ?_ _ | refine blk_drew ?_ | refine blk_alloc ?_ _)); exact BK123.out) hkp (fun hs_ => (fun e_ => (Kd.R_ne HO_6.out BK123.out (by decide)) e_) hs_))
                  have n1_ := Aside0.mk (Kd.R_mono (ok' := fun k_ => True) ho0 (fun k_ hk_ => trivial))
                  have n2_ := Aside0.mk (hb)
                  clear BK123
                  clear HB
                  clear HO_6
                  have BK123 := n0_
                  have HO137 := n1_
                  have HB := n2_
                  clear n0_ n1_ n2_
                  (try clear hb)
                  (try clear hkp)
                  (try clear ho0)
                  obtain ⟨Ao29, co29, eo29⟩ := Kd.R_slice HO137.out
                  (first | subst eo29 | (injection eo29 with f1_ f2_ f3_; have f4_ := f1_.symm; have f5_ := f3_.symm; clear f1_ f2_ f3_; subst f4_; subst f5_))
                  refine hK.out _ _ ⟨(blk_cell BK123.out 0).trans rfl, (blk_cell BK123.out 1).trans rfl, (blk_cell BK123.out 2).trans rfl, (blk_cell BK123.out 3).trans rfl, (blk_cell BK123.out 4).trans rfl, (blk_cell BK123.out 5).trans rfl, (blk_cell BK123.out 6).trans rfl, (blk_cell BK123.out 7).trans rfl, ((HB.out.cell (World.block_lt_of_cell? w _ hw138_0)).trans hw138_0)⟩ (fun hHeld => ?_)
                  clear hK K
                  refine norm_ (a' := ?_) ?_ ?_
                  rotate_left
                  · show Act.put _ (some 40) _ = _
                    simp only [Act.put, List.setIfInBounds_toArray, List.set_cons_zero, List.set_cons_succ, i64_w, i32_w]
                    rfl
                  refine one_ (i := 8) (N := some 46) #[true, true, true, true, true, true, true, true, true, false] rfl rfl (one_of HT_.out (by kernel_rfl)) (by decide) (fun K hK => ?_)
                  refine goes_ Try.func36 (by kernel_rfl) rfl #[.slice Ao29 t135.length co29, .string (rdOf ByteArray.empty l0_2 x33_1)] (by rfl) rfl rfl (by (try simp only [List.map_toArray, List.map_cons, List.map_nil]); first | done | rfl | (simp only [List.length_drop, List.length_take]; rfl)) ?_
                  with_reducible refine (num_Text.calls k1 (fun k_ => some k_ = (.slice Ao29 t135.length co29 : Value).ownBlock) (.slice Ao29 t135.length co29) t135 (rdOf ByteArray.empty l0_2 x33_1) t139 w _ ?side1 ?side2 A25.out).mono ?_
                  (case side1 => repeat (first | (with_reducible first | exact HB.out | apply below_alloc | apply pw_below_drewN | apply below_drew1 | refine below_set ?_ GE123.out) | exact HB.out))
                  (case side2 => exact Kd.R_tight rfl HO137.out)
                  rintro e w30 ⟨v140, rfl, ho0, hb, hkp⟩
                  refine ⟨_, rfl, ?_⟩
                  have n0_ := Aside0.mk (blk_kept (by (with_reducible repeat (first | refine blk_drewN ?_ _ | refine blk_drew ?_ | refine blk_alloc ?_ _)); exact BK123.out) hkp (fun hs_ => (fun e_ => (Kd.R_ne HO137.out BK123.out (by decide)) e_) hs_))
                  have n1_ := Aside0.mk (Kd.R_mono (ok' := fun k_ => True) ho0 (fun k_ hk_ => trivial))
                  have n2_ := Aside0.mk (hb)
                  clear BK123
                  clear HB
                  clear HO137
                  have BK123 := n0_
                  have HO141 := n1_
                  have HB := n2_
                  clear n0_ n1_ n2_
                  (try clear hb)
                  (try clear hkp)
                  (try clear ho0)
                  refine hK.out _ _ ⟨(blk_cell BK123.out 0).trans rfl, (blk_cell BK123.out 1).trans rfl, (blk_cell BK123.out 2).trans rfl, (blk_cell BK123.out 3).trans rfl, (blk_cell BK123.out 4).trans rfl, (blk_cell BK123.out 5).trans rfl, (blk_cell BK123.out 6).trans rfl, (blk_cell BK123.out 7).trans rfl, ((HB.out.cell (World.block_lt_of_cell? w _ hw138_0)).trans hw138_0)⟩ (fun hHeld => ?_)
                  clear hK K
                  refine norm_ (a' := ?_) ?_ ?_
                  rotate_left
                  · show Act.put _ (some 46) _ = _
                    simp only [Act.put, List.setIfInBounds_toArray, List.set_cons_zero, List.set_cons_succ, i64_w, i32_w]
                    rfl
                  refine pure_ (i := 9) (N := some 6) (v := ?_) (a' := ?_) #[true, true, true, true, true, true, true, true, true, true] rfl rfl (any_of HT_.out (by kernel_rfl)) (fun _ _ _ h => h) (Or.inl ⟨by rfl, ?_⟩) ?_ ?_
                  rotate_left
                  · intro w'
                    go_simp
                    with_reducible rfl
                  rotate_left
                  · simp only [Act.put, List.setIfInBounds_toArray, List.set_cons_zero, List.set_cons_succ, i64_w, i32_w]
                    rfl
                  refine done_ (done_of HT_.out (by kernel_rfl)) ?_
                  try go_wp2
                  go_roundg k1
                  case measure => have := HK1.out; omega
                  case rel => exact ⟨(t139), (wrap64 (x33_1 + 1)), (by first | rfl | (simp; done) | (simp [*]; done)), H', ⟨by have := HK1.out; omega⟩, ⟨by (with_reducible repeat (first | apply Kd.R_alloc | apply Kd.R_drewN | apply Kd.R_drew)); exact HO141.out⟩, ⟨by (with_reducible repeat (first | refine blk_drewN ?_ _ | refine blk_drew ?_ | refine blk_alloc ?_ _)); exact BK123.out⟩, ⟨by repeat (first | (with_reducible first | exact HB.out | apply below_alloc | apply pw_below_drewN | apply below_drew1 | refine below_set ?_ GE123.out) | exact HB.out)⟩⟩
                · rw [if_neg c24] at H
                  exact absurd H (by simp)
              · rw [if_neg c22] at H
                exact absurd H (by simp)
            · rw [if_neg c21] at H
              exact absurd H (by simp)
          · rw [if_neg c20] at H
            have c20b0 : decide (x33_1 < (l0_1.length : Int)) = false := decide_eq_false c20
            clear c20
            simp only [Option.some.injEq, Prod.mk.injEq] at H
            obtain ⟨rfl, rfl⟩ := H
            go_wp2
            go_ret2
            exact ⟨_, by first | rfl | (simp [errW_none, errW_some] <;> rfl) | (simp [*, errW_none, errW_some] <;> rfl), by (with_reducible repeat (first | apply Kd.R_alloc | apply Kd.R_drewN | apply Kd.R_drew)); exact HO_6.out, by repeat (first | (with_reducible first | exact HB.out | apply below_alloc | apply pw_below_drewN | apply below_drew1 | refine below_set ?_ GE123.out) | exact HB.out)⟩
    · rw [if_neg c7] at H
      have c7b0 : (a0_0 == 1) = false := beq_eq_false_iff_ne.mpr c7
      have c7b1 : (a0_0 != 1) = true := bne_iff_ne.mpr c7
      by_cases c31 : a0_0 = 2
      · rw [if_pos c31] at H
        have c31b0 : (a0_0 == 2) = true := beq_iff_eq.mpr c31
        have c31b1 : (a0_0 != 2) = false := bne_eq_false_iff_eq.mpr c31
        clear c31
        replace H := Option.bind_eq_some_iff.mp H
        obtain ⟨t142, A320, H⟩ := H
        replace H : (page_Encode.l1 k t142 l0_3 (l0_3.length : Int) 0 a0_0 l0_1 l0_2 l0_3 a0_4 a0_5 a0_6 a0_7) = some (r1, r2) := H
        have A32 := Aside0.mk A320
        clear A320
        have H' := Aside0.mk H
        clear H
        go_enter Try.func16, Try.ntmps16
        go_wp2_with (first | ((with_reducible refine gate_dst (N := 2) rfl ?_); refine box_event ?hg (N := 2) ?hd (cs := #[.int .i64 a0_0, .slice A0_1 l0_1.length c0_1, .slice A0_2 l0_2.length c0_2, .slice A0_3 l0_3.length c0_3, .int .i64 a0_4, .int .i64 a0_5, .int .i64 a0_6, .int .i64 a0_7]) (t := 27) ?hr ?_; (case hd => rfl); (case hg => rfl); (case hr => first | (go_simp; done) | (go_simp; rfl)); intro gb123 hg w33 hbox hb; have n0_ := Aside0.mk (below_step (by repeat (first | (with_reducible first | exact HB.out | apply below_alloc | apply pw_below_drewN | apply below_drew1) | exact HB.out)) hb); have n1_ := Aside0.mk (hbox); have n2_ := Aside0.mk ((by rw [hg]; exact (below_size (by repeat (first | (with_reducible first | exact HB.out | apply below_alloc | apply pw_below_drewN | apply below_drew1) | exact HB.out))) : w.heap.size ≤ gb123)); have n3_ := Aside0.mk ((by rw [hg]; exact (below_size (by repeat (first | (with_reducible first | exact HB.out | apply below_alloc | apply pw_below_drewN | apply below_drew1) | exact HB.out))) : w.heap.size ≤ gb123)); clear HB; have HB := n0_; have BK123 := n1_; have GW123 := n2_; have GE123 := n3_; clear n0_ n1_ n2_ n3_; clear hb hbox hg; have hcz34_0 : w33.cell? ⟨gb123, 0, none⟩ = some (.int .i64 a0_0) := (blk_cell BK123.out 0).trans rfl; have hcz34_1 : w33.cell? ⟨gb123, 1, none⟩ = some (.slice A0_1 l0_1.length c0_1) := (blk_cell BK123.out 1).trans rfl; have hcz34_2 : w33.cell? ⟨gb123, 2, none⟩ = some (.slice A0_2 l0_2.length c0_2) := (blk_cell BK123.out 2).trans rfl; have hcz34_3 : w33.cell? ⟨gb123, 3, none⟩ = some (.slice A0_3 l0_3.length c0_3) := (blk_cell BK123.out 3).trans rfl; have hcz34_4 : w33.cell? ⟨gb123, 4, none⟩ = some (.int .i64 a0_4) := (blk_cell BK123.out 4).trans rfl; have hcz34_5 : w33.cell? ⟨gb123, 5, none⟩ = some (.int .i64 a0_5) := (blk_cell BK123.out 5).trans rfl; have hcz34_6 : w33.cell? ⟨gb123, 6, none⟩ = some (.int .i64 a0_6) := (blk_cell BK123.out 6).trans rfl; have hcz34_7 : w33.cell? ⟨gb123, 7, none⟩ = some (.int .i64 a0_7) := (blk_cell BK123.out 7).trans rfl; have hfz34_0 := blk_frozen BK123.out 0; have hfz34_1 := blk_frozen BK123.out 1; have hfz34_2 := blk_frozen BK123.out 2; have hfz34_3 := blk_frozen BK123.out 3; have hfz34_4 := blk_frozen BK123.out 4; have hfz34_5 := blk_frozen BK123.out 5; have hfz34_6 := blk_frozen BK123.out 6; have hfz34_7 := blk_frozen BK123.out 7) | ((with_reducible refine gate_callee (f := 17) rfl ?_); refine goesL_ (some 12) rfl rfl Try.func17 (by kernel_rfl) rfl #[.agg #[.int .i64 a0_0, .slice A0_1 l0_1.length c0_1, .slice A0_2 l0_2.length c0_2, .slice A0_3 l0_3.length c0_3, .int .i64 a0_4, .int .i64 a0_5, .int .i64 a0_6, .int .i64 a0_7]] rfl (by (try simp only [List.map_toArray, List.map_cons, List.map_nil]); first | done | rfl | (simp only [List.length_drop, List.length_take]; rfl)) ?_; (with_reducible refine (page_Page_Right.calls k a0_0 _ _ l0_1 _ _ l0_2 _ _ l0_3 a0_4 a0_5 a0_6 a0_7 true _ ?side1 ?side2 ?side3 ?side4 ?side5 ?side6 A3.out).mono ?_); (case side1 => repeat (first | exact (Kd.C_below HR0_1.out HB.out) | (with_reducible refine Kd.C_alloc ?_ _) | (with_reducible refine Kd.C_drewN ?_ _) | (with_reducible refine Kd.C_drew ?_))); (case side2 => exact HC0_1.out); (case side3 => repeat (first | exact (Kd.C_below HR0_2.out HB.out) | (with_reducible refine Kd.C_alloc ?_ _) | (with_reducible refine Kd.C_drewN ?_ _) | (with_reducible refine Kd.C_drew ?_))); (case side4 => exact HC0_2.out); (case side5 => repeat (first | exact (Kd.C_below HR0_3.out HB.out) | (with_reducible refine Kd.C_alloc ?_ _) | (with_reducible refine Kd.C_drewN ?_ _) | (with_reducible refine Kd.C_drew ?_))); (case side6 => exact HC0_3.out); rintro e w35 ⟨rfl, hb⟩; refine ⟨_, rfl, ?_⟩; have n0_ := Aside0.mk (blk_below (g := gb123) (o := .cells #[.int .i64 a0_0, .slice A0_1 l0_1.length c0_1, .slice A0_2 l0_2.length c0_2, .slice A0_3 l0_3.length c0_3, .int .i64 a0_4, .int .i64 a0_5, .int .i64 a0_6, .int .i64 a0_7] 27 (0, 0)) (by (with_reducible repeat (first | refine blk_drewN ?_ _ | refine blk_drew ?_ | refine blk_alloc ?_ _)); exact BK123.out) hb); have n1_ := Aside0.mk (below_step (by repeat (first | (with_reducible first | exact HB.out | apply below_alloc | apply pw_below_drewN | apply below_drew1 | refine below_set ?_ GE123.out) | exact HB.out)) hb); clear BK123; clear HB; have BK123 := n0_; have HB := n1_; clear n0_ n1_; (try clear hb); (try clear hb2); (try clear hk); (try clear hi); have hcz36_0 : w35.cell? ⟨gb123, 0, none⟩ = some (.int .i64 a0_0) := (blk_cell BK123.out 0).trans rfl; have hcz36_1 : w35.cell? ⟨gb123, 1, none⟩ = some (.slice A0_1 l0_1.length c0_1) := (blk_cell BK123.out 1).trans rfl; have hcz36_2 : w35.cell? ⟨gb123, 2, none⟩ = some (.slice A0_2 l0_2.length c0_2) := (blk_cell BK123.out 2).trans rfl; have hcz36_3 : w35.cell? ⟨gb123, 3, none⟩ = some (.slice A0_3 l0_3.length c0_3) := (blk_cell BK123.out 3).trans rfl; have hcz36_4 : w35.cell? ⟨gb123, 4, none⟩ = some (.int .i64 a0_4) := (blk_cell BK123.out 4).trans rfl; have hcz36_5 : w35.cell? ⟨gb123, 5, none⟩ = some (.int .i64 a0_5) := (blk_cell BK123.out 5).trans rfl; have hcz36_6 : w35.cell? ⟨gb123, 6, none⟩ = some (.int .i64 a0_6) := (blk_cell BK123.out 6).trans rfl; have hcz36_7 : w35.cell? ⟨gb123, 7, none⟩ = some (.int .i64 a0_7) := (blk_cell BK123.out 7).trans rfl; have hfz36_0 := blk_frozen BK123.out 0; have hfz36_1 := blk_frozen BK123.out 1; have hfz36_2 := blk_frozen BK123.out 2; have hfz36_3 := blk_frozen BK123.out 3; have hfz36_4 := blk_frozen BK123.out 4; have hfz36_5 := blk_frozen BK123.out 5; have hfz36_6 := blk_frozen BK123.out 6; have hfz36_7 := blk_frozen BK123.out 7) | ((with_reducible refine gate_callee (f := 35) rfl ?_); refine goesL_ (some 17) rfl rfl Try.func35 (by kernel_rfl) rfl #[.slice none 0 0, .int .u64 (IntKind.u64.wrap (a0_0))] rfl (by (try simp only [List.map_toArray, List.map_cons, List.map_nil]); first | done | rfl | (simp only [List.length_drop, List.length_take]; rfl)) ?_; (refine (num_Put.calls k (fun k_ => some k_ = (.slice none 0 0 : Value).ownBlock) (.slice none 0 0) ([] : List Int) (IntKind.u64.wrap (a0_0)) t125 w _ ?side1 ?side2 A5.out).mono ?_); (case side1 => repeat (first | (with_reducible first | exact HB.out | apply below_alloc | apply pw_below_drewN | apply below_drew1 | refine below_set ?_ GE123.out) | exact HB.out)); (case side2 => exact Kd.R_nil _ _ _ _ _); rintro e w37 ⟨v126, rfl, ho0, hb, hkp⟩; refine ⟨_, rfl, ?_⟩; have n0_ := Aside0.mk (blk_kept (by (with_reducible repeat (first | refine blk_drewN ?_ _ | refine blk_drew ?_ | refine blk_alloc ?_ _)); exact BK123.out) hkp (fun hs_ => (fun e_ => by simp [Value.ownBlock] at e_) hs_)); have n1_ := Aside0.mk (Kd.R_mono (ok' := fun k_ => True) ho0 (fun k_ hk_ => trivial)); have n2_ := Aside0.mk (hb); clear BK123; clear HB; have BK123 := n0_; have HO127 := n1_; have HB := n2_; clear n0_ n1_ n2_; (try clear hb); (try clear hkp); (try clear ho0); obtain ⟨Ao38, co38, eo38⟩ := Kd.R_slice HO127.out; subst eo38) | ((with_reducible refine gate_callee (f := 35) rfl ?_); refine goesL_ (some 19) rfl rfl Try.func35 (by kernel_rfl) rfl #[.slice Ao38 t125.length co38, .int .u64 a1] rfl (by (try simp only [List.map_toArray, List.map_cons, List.map_nil]); first | done | rfl | (simp only [List.length_drop, List.length_take]; rfl)) ?_; (with_reducible refine (num_Put.calls k (fun k_ => some k_ = (.slice Ao38 t125.length co38 : Value).ownBlock) (.slice Ao38 t125.length co38) t125 a1 t128 w _ ?side1 ?side2 A6.out).mono ?_); (case side1 => repeat (first | (with_reducible first | exact HB.out | apply below_alloc | apply pw_below_drewN | apply below_drew1 | refine below_set ?_ GE123.out) | exact HB.out)); (case side2 => exact Kd.R_tight rfl HO127.out); rintro e w39 ⟨v129, rfl, ho0, hb, hkp⟩; refine ⟨_, rfl, ?_⟩; have n0_ := Aside0.mk (blk_kept (by (with_reducible repeat (first | refine blk_drewN ?_ _ | refine blk_drew ?_ | refine blk_alloc ?_ _)); exact BK123.out) hkp (fun hs_ => (fun e_ => (Kd.R_ne HO127.out BK123.out (by decide)) e_) hs_)); have n1_ := Aside0.mk (Kd.R_mono (ok' := fun k_ => True) ho0 (fun k_ hk_ => trivial)); have n2_ := Aside0.mk (hb); clear BK123; clear HB; clear HO127; have BK123 := n0_; have HO130 := n1_; have HB := n2_; clear n0_ n1_ n2_; (try clear hb); (try clear hkp); (try clear ho0); have hcz40_0 : w39.cell? ⟨gb123, 0, none⟩ = some (.int .i64 a0_0) := (blk_cell BK123.out 0).trans rfl; have hcz40_1 : w39.cell? ⟨gb123, 1, none⟩ = some (.slice A0_1 l0_1.length c0_1) := (blk_cell BK123.out 1).trans rfl; have hcz40_2 : w39.cell? ⟨gb123, 2, none⟩ = some (.slice A0_2 l0_2.length c0_2) := (blk_cell BK123.out 2).trans rfl; have hcz40_3 : w39.cell? ⟨gb123, 3, none⟩ = some (.slice A0_3 l0_3.length c0_3) := (blk_cell BK123.out 3).trans rfl; have hcz40_4 : w39.cell? ⟨gb123, 4, none⟩ = some (.int .i64 a0_4) := (blk_cell BK123.out 4).trans rfl; have hcz40_5 : w39.cell? ⟨gb123, 5, none⟩ = some (.int .i64 a0_5) := (blk_cell BK123.out 5).trans rfl; have hcz40_6 : w39.cell? ⟨gb123, 6, none⟩ = some (.int .i64 a0_6) := (blk_cell BK123.out 6).trans rfl; have hcz40_7 : w39.cell? ⟨gb123, 7, none⟩ = some (.int .i64 a0_7) := (blk_cell BK123.out 7).trans rfl; have hfz40_0 := blk_frozen BK123.out 0; have hfz40_1 := blk_frozen BK123.out 1; have hfz40_2 := blk_frozen BK123.out 2; have hfz40_3 := blk_frozen BK123.out 3; have hfz40_4 := blk_frozen BK123.out 4; have hfz40_5 := blk_frozen BK123.out 5; have hfz40_6 := blk_frozen BK123.out 6; have hfz40_7 := blk_frozen BK123.out 7; obtain ⟨Ao41, co41, eo41⟩ := Kd.R_slice HO130.out; subst eo41) | ((with_reducible refine gate_callee (f := 35) rfl ?_); refine goesL_ (some 55) rfl rfl Try.func35 (by kernel_rfl) rfl #[.slice Ao41 t128.length co41, .int .u64 (IntKind.u64.wrap ((l0_3.length : Int)))] rfl (by (try simp only [List.map_toArray, List.map_cons, List.map_nil]); first | done | rfl | (simp only [List.length_drop, List.length_take]; rfl)) ?_; (with_reducible refine (num_Put.calls k (fun k_ => some k_ = (.slice Ao41 t128.length co41 : Value).ownBlock) (.slice Ao41 t128.length co41) t128 (IntKind.u64.wrap ((l0_3.length : Int))) t142 w _ ?side1 ?side2 A32.out).mono ?_); (case side1 => repeat (first | (with_reducible first | exact HB.out | apply below_alloc | apply pw_below_drewN | apply below_drew1 | refine below_set ?_ GE123.out) | exact HB.out)); (case side2 => exact Kd.R_tight rfl HO130.out); rintro e w42 ⟨v143, rfl, ho0, hb, hkp⟩; refine ⟨_, rfl, ?_⟩; have n0_ := Aside0.mk (blk_kept (by (with_reducible repeat (first | refine blk_drewN ?_ _ | refine blk_drew ?_ | refine blk_alloc ?_ _)); exact BK123.out) hkp (fun hs_ => (fun e_ => (Kd.R_ne HO130.out BK123.out (by decide)) e_) hs_)); have n1_ := Aside0.mk (Kd.R_mono (ok' := fun k_ => True) ho0 (fun k_ hk_ => trivial)); have n2_ := Aside0.mk (hb); clear BK123; clear HB; clear HO130; have BK123 := n0_; have HO144 := n1_; have HB := n2_; clear n0_ n1_ n2_; (try clear hb); (try clear hkp); (try clear ho0); have hcz43_0 : w42.cell? ⟨gb123, 0, none⟩ = some (.int .i64 a0_0) := (blk_cell BK123.out 0).trans rfl; have hcz43_1 : w42.cell? ⟨gb123, 1, none⟩ = some (.slice A0_1 l0_1.length c0_1) := (blk_cell BK123.out 1).trans rfl; have hcz43_2 : w42.cell? ⟨gb123, 2, none⟩ = some (.slice A0_2 l0_2.length c0_2) := (blk_cell BK123.out 2).trans rfl; have hcz43_3 : w42.cell? ⟨gb123, 3, none⟩ = some (.slice A0_3 l0_3.length c0_3) := (blk_cell BK123.out 3).trans rfl; have hcz43_4 : w42.cell? ⟨gb123, 4, none⟩ = some (.int .i64 a0_4) := (blk_cell BK123.out 4).trans rfl; have hcz43_5 : w42.cell? ⟨gb123, 5, none⟩ = some (.int .i64 a0_5) := (blk_cell BK123.out 5).trans rfl; have hcz43_6 : w42.cell? ⟨gb123, 6, none⟩ = some (.int .i64 a0_6) := (blk_cell BK123.out 6).trans rfl; have hcz43_7 : w42.cell? ⟨gb123, 7, none⟩ = some (.int .i64 a0_7) := (blk_cell BK123.out 7).trans rfl; have hfz43_0 := blk_frozen BK123.out 0; have hfz43_1 := blk_frozen BK123.out 1; have hfz43_2 := blk_frozen BK123.out 2; have hfz43_3 := blk_frozen BK123.out 3; have hfz43_4 := blk_frozen BK123.out 4; have hfz43_5 := blk_frozen BK123.out 5; have hfz43_6 := blk_frozen BK123.out 6; have hfz43_7 := blk_frozen BK123.out 7))
        go_loopg [6, 59] k (fun kq v6 v59 w' => ∃ (x6_1 : List Int) (x59_1 : Int), v59 = .int .i64 x59_1 ∧ Aside0 (page_Encode.l1 kq x6_1 l0_3 (l0_3.length : Int) x59_1 a0_0 l0_1 l0_2 l0_3 a0_4 a0_5 a0_6 a0_7 = some (r1, r2)) ∧ Aside0 (kq ≤ k) ∧ Aside0 (Kd.R (Kd.int .u8) 5 w' w.heap.size (fun _ => True) v6 x6_1) ∧ Aside0 (w'.heap[gb123]? = some (.cells #[.int .i64 a0_0, (.slice A0_1 l0_1.length c0_1), (.slice A0_2 l0_2.length c0_2), (.slice A0_3 l0_3.length c0_3), .int .i64 a0_4, .int .i64 a0_5, .int .i64 a0_6, .int .i64 a0_7] 27 (0, 0))) ∧ Aside0 (Below w.heap.size w w'))
        case atStart => exact ⟨(t142), (0), (by first | rfl | (simp; done) | (simp [*]; done)), H', ⟨Nat.le_refl _⟩, ⟨by (with_reducible repeat (first | apply Kd.R_alloc | apply Kd.R_drewN | apply Kd.R_drew)); exact HO144.out⟩, ⟨by (with_reducible repeat (first | refine blk_drewN ?_ _ | refine blk_drew ?_ | refine blk_alloc ?_ _)); exact BK123.out⟩, ⟨by repeat (first | (with_reducible first | exact HB.out | apply below_alloc | apply pw_below_drewN | apply below_drew1 | refine below_set ?_ GE123.out) | exact HB.out)⟩⟩
        case round =>
          clear H'
          try clear c1
          try clear p1
          try clear q1
          try clear hx1
          try clear c2
          try clear p2
          try clear c3
          try clear c4
          try clear p6
          try clear c7
          try clear c7b0
          try clear c7b1
          try clear p13
          try clear q13
          try clear hx13
          try clear c16
          try clear c17
          try clear c20
          try clear c20b0
          try clear c21
          try clear c21b0
          try clear c22
          try clear c22b0
          try clear c24
          try clear c24b0
          try clear c31
          try clear c31b0
          try clear c31b1
          try clear c35
          try clear c36
          try clear hcz10_0
          try clear hcz10_1
          try clear hcz10_2
          try clear hcz10_3
          try clear hcz10_4
          try clear hcz10_5
          try clear hcz10_6
          try clear hcz10_7
          try clear hcz12_0
          try clear hcz12_1
          try clear hcz12_2
          try clear hcz12_3
          try clear hcz12_4
          try clear hcz12_5
          try clear hcz12_6
          try clear hcz12_7
          try clear hcz16_0
          try clear hcz16_1
          try clear hcz16_2
          try clear hcz16_3
          try clear hcz16_4
          try clear hcz16_5
          try clear hcz16_6
          try clear hcz16_7
          try clear hcz19_0
          try clear hcz19_1
          try clear hcz19_2
          try clear hcz19_3
          try clear hcz19_4
          try clear hcz19_5
          try clear hcz19_6
          try clear hcz19_7
          try clear hcz34_0
          try clear hcz34_1
          try clear hcz34_2
          try clear hcz34_3
          try clear hcz34_4
          try clear hcz34_5
          try clear hcz34_6
          try clear hcz34_7
          try clear hcz36_0
          try clear hcz36_1
          try clear hcz36_2
          try clear hcz36_3
          try clear hcz36_4
          try clear hcz36_5
          try clear hcz36_6
          try clear hcz36_7
          try clear hcz40_0
          try clear hcz40_1
          try clear hcz40_2
          try clear hcz40_3
          try clear hcz40_4
          try clear hcz40_5
          try clear hcz40_6
          try clear hcz40_7
          try clear hcz43_0
          try clear hcz43_1
          try clear hcz43_2
          try clear hcz43_3
          try clear hcz43_4
          try clear hcz43_5
          try clear hcz43_6
          try clear hcz43_7
          try clear hfz10_0
          try clear hfz10_1
          try clear hfz10_2
          try clear hfz10_3
          try clear hfz10_4
          try clear hfz10_5
          try clear hfz10_6
          try clear hfz10_7
          try clear hfz12_0
          try clear hfz12_1
          try clear hfz12_2
          try clear hfz12_3
          try clear hfz12_4
          try clear hfz12_5
          try clear hfz12_6
          try clear hfz12_7
          try clear hfz16_0
          try clear hfz16_1
          try clear hfz16_2
          try clear hfz16_3
          try clear hfz16_4
          try clear hfz16_5
          try clear hfz16_6
          try clear hfz16_7
          try clear hfz19_0
          try clear hfz19_1
          try clear hfz19_2
          try clear hfz19_3
          try clear hfz19_4
          try clear hfz19_5
          try clear hfz19_6
          try clear hfz19_7
          try clear hfz34_0
          try clear hfz34_1
          try clear hfz34_2
          try clear hfz34_3
          try clear hfz34_4
          try clear hfz34_5
          try clear hfz34_6
          try clear hfz34_7
          try clear hfz36_0
          try clear hfz36_1
          try clear hfz36_2
          try clear hfz36_3
          try clear hfz36_4
          try clear hfz36_5
          try clear hfz36_6
          try clear hfz36_7
          try clear hfz40_0
          try clear hfz40_1
          try clear hfz40_2
          try clear hfz40_3
          try clear hfz40_4
          try clear hfz40_5
          try clear hfz40_6
          try clear hfz40_7
          try clear hfz43_0
          try clear hfz43_1
          try clear hfz43_2
          try clear hfz43_3
          try clear hfz43_4
          try clear hfz43_5
          try clear hfz43_6
          try clear hfz43_7
          try clear hx134_0
          try clear hx138_0
          try clear p134
          try clear p138
          try clear p2
          try clear q134
          try clear q138
          obtain ⟨x6_1, x59_1, rfl, HA, HK1, HO_6, BK123, HB⟩ := hrel
          cases gk with
          | zero => exact absurd HA.out (by simp [page_Encode.l1])
          | succ k1 =>
            have H := HA.out
            clear HA
            simp only [page_Encode.l1] at H
            by_cases c44 : x59_1 < (l0_3.length : Int)
            · rw [if_pos c44] at H
              have c44b0 : decide (x59_1 < (l0_3.length : Int)) = true := decide_eq_true c44
              clear c44
              by_cases c45 : 0 ≤ x59_1
              · rw [if_pos c45] at H
                have c45b0 : decide (0 ≤ x59_1) = true := decide_eq_true c45
                clear c45
                by_cases c46 : x59_1 < (l0_3.length : Int)
                · rw [if_pos c46] at H
                  have c46b0 : decide (x59_1 < (l0_3.length : Int)) = true := decide_eq_true c46
                  clear c46
                  by_cases c47 : x59_1 > 0
                  · rw [if_pos c47] at H
                    have c47b0 : decide (0 < x59_1) = true := decide_eq_true c47
                    clear c47
                    obtain ⟨ji48, hji48⟩ : ∃ j_ : Int, (wrap64 (x59_1 - 1)) = j_ := ⟨_, rfl⟩
                    replace H : (if 0 ≤ (ji48) then (if (ji48) < (l0_1.length : Int) then ((num_Text.f k1 x6_1 (rdOf ByteArray.empty l0_1 (ji48))).bind fun t147 => ((num_Put.f k1 t147 (IntKind.u64.wrap (rd l0_3 x59_1))).bind fun t150 => (page_Encode.l1 k1 t150 l0_3 (l0_3.length : Int) (wrap64 (x59_1 + 1)) a0_0 l0_1 l0_2 l0_3 a0_4 a0_5 a0_6 a0_7))) else (none)) else (none)) = some (r1, r2) := by first | (rw [hji48] at H; exact H) | (simp only [hji48] at H ⊢; exact H)
                    have hji48w : (IntKind.i64.wrap (x59_1 - 1)) = ji48 := (i64_w _).trans hji48
                    by_cases c49 : 0 ≤ (ji48)
                    · rw [if_pos c49] at H
                      have c49b0 : decide (0 ≤ (ji48)) = true := decide_eq_true c49
                      clear c49
                      by_cases c50 : (ji48) < (l0_1.length : Int)
                      · rw [if_pos c50] at H
                        have c50b0 : decide ((ji48) < (l0_1.length : Int)) = true := decide_eq_true c50
                        clear c50
                        replace H := Option.bind_eq_some_iff.mp H
                        obtain ⟨t147, A510, H⟩ := H
                        replace H : ((num_Put.f k1 t147 (IntKind.u64.wrap (rd l0_3 x59_1))).bind fun t150 => (page_Encode.l1 k1 t150 l0_3 (l0_3.length : Int) (wrap64 (x59_1 + 1)) a0_0 l0_1 l0_2 l0_3 a0_4 a0_5 a0_6 a0_7)) = some (r1, r2) := H
                        have A51 := Aside0.mk A510
                        clear A510
                        replace H := Option.bind_eq_some_iff.mp H
                        obtain ⟨t150, A520, H⟩ := H
                        replace H : (page_Encode.l1 k1 t150 l0_3 (l0_3.length : Int) (wrap64 (x59_1 + 1)) a0_0 l0_1 l0_2 l0_3 a0_4 a0_5 a0_6 a0_7) = some (r1, r2) := H
                        have A52 := Aside0.mk A520
                        clear A520
                        have H' := Aside0.mk H
                        clear H
                        have p145 : 0 ≤ (x59_1 : Int) := of_decide_eq_true (by first | (with_reducible assumption) | assumption)
                        have q145 : x59_1 < (l0_3.length : Int) := of_decide_eq_true (by first | (with_reducible assumption) | assumption)
                        obtain ⟨ad145, e145, hx145_0⟩ := Kd.at_int HR0_3.out x59_1 p145 q145
                        cases e145
                        replace hx145_0 := (HB.out.cell (World.block_lt_of_cell? w _ hx145_0)).trans hx145_0
                        replace p145 := eq_true p145
                        replace q145 := eq_true q145
                        have hcz53_0 : wr.cell? ⟨gb123, 0, none⟩ = some (.int .i64 a0_0) := (blk_cell BK123.out 0).trans rfl
                        have hcz53_1 : wr.cell? ⟨gb123, 1, none⟩ = some (.slice A0_1 l0_1.length c0_1) := (blk_cell BK123.out 1).trans rfl
                        have hcz53_2 : wr.cell? ⟨gb123, 2, none⟩ = some (.slice A0_2 l0_2.length c0_2) := (blk_cell BK123.out 2).trans rfl
                        have hcz53_3 : wr.cell? ⟨gb123, 3, none⟩ = some (.slice (some ad145) l0_3.length c0_3) := (blk_cell BK123.out 3).trans rfl
                        have hcz53_4 : wr.cell? ⟨gb123, 4, none⟩ = some (.int .i64 a0_4) := (blk_cell BK123.out 4).trans rfl
                        have hcz53_5 : wr.cell? ⟨gb123, 5, none⟩ = some (.int .i64 a0_5) := (blk_cell BK123.out 5).trans rfl
                        have hcz53_6 : wr.cell? ⟨gb123, 6, none⟩ = some (.int .i64 a0_6) := (blk_cell BK123.out 6).trans rfl
                        have hcz53_7 : wr.cell? ⟨gb123, 7, none⟩ = some (.int .i64 a0_7) := (blk_cell BK123.out 7).trans rfl
                        have hfz53_0 := blk_frozen BK123.out 0
                        have hfz53_1 := blk_frozen BK123.out 1
                        have hfz53_2 := blk_frozen BK123.out 2
                        have hfz53_3 := blk_frozen BK123.out 3
                        have hfz53_4 := blk_frozen BK123.out 4
                        have hfz53_5 := blk_frozen BK123.out 5
                        have hfz53_6 := blk_frozen BK123.out 6
                        have hfz53_7 := blk_frozen BK123.out 7
                        have p146 : 0 ≤ ((ji48) : Int) := of_decide_eq_true (by first | (with_reducible assumption) | assumption)
                        have q146 : (ji48) < (l0_1.length : Int) := of_decide_eq_true (by first | (with_reducible assumption) | assumption)
                        obtain ⟨ad146, e146, hx146_0⟩ := Kd.at_string HR0_1.out (ji48) p146 q146
                        cases e146
                        replace hx146_0 := (HB.out.cell (World.block_lt_of_cell? w _ hx146_0)).trans hx146_0
                        replace p146 := eq_true p146
                        replace q146 := eq_true q146
                        obtain ⟨Ao54, co54, eo54⟩ := Kd.R_slice HO_6.out
                        subst eo54
                        go_wp2_with (first | ((with_reducible refine gate_callee (f := 36) rfl ?_); refine goesL_ (some 73) rfl rfl Try.func36 (by kernel_rfl) rfl #[.slice Ao54 x6_1.length co54, .string (rdOf ByteArray.empty l0_1 (ji48))] rfl (by (try simp only [List.map_toArray, List.map_cons, List.map_nil]); first | done | (simp only [hji48]; rfl) | rfl | (simp only [List.length_drop, List.length_take]; rfl)) ?_; (with_reducible refine (num_Text.calls k1 (fun k_ => some k_ = (.slice Ao54 x6_1.length co54 : Value).ownBlock) (.slice Ao54 x6_1.length co54) x6_1 (rdOf ByteArray.empty l0_1 (ji48)) t147 w _ ?side1 ?side2 A51.out).mono ?_); (case side1 => repeat (first | (with_reducible first | exact HB.out | apply below_alloc | apply pw_below_drewN | apply below_drew1 | refine below_set ?_ GE123.out) | exact HB.out)); (case side2 => exact Kd.R_tight rfl HO_6.out); rintro e w55 ⟨v148, rfl, ho0, hb, hkp⟩; refine ⟨_, rfl, ?_⟩; have n0_ := Aside0.mk (blk_kept (by (with_reducible repeat (first | refine blk_drewN ?_ _ | refine blk_drew ?_ | refine blk_alloc ?_ _)); exact BK123.out) hkp (fun hs_ => (fun e_ => (Kd.R_ne HO_6.out BK123.out (by decide)) e_) hs_)); have n1_ := Aside0.mk (Kd.R_mono (ok' := fun k_ => True) ho0 (fun k_ hk_ => trivial)); have n2_ := Aside0.mk (hb); clear BK123; clear HB; clear HO_6; have BK123 := n0_; have HO149 := n1_; have HB := n2_; clear n0_ n1_ n2_; (try clear hb); (try clear hkp); (try clear ho0); obtain ⟨Ao56, co56, eo56⟩ := Kd.R_slice HO149.out; subst eo56) | ((with_reducible refine gate_callee (f := 35) rfl ?_); refine goesL_ (some 77) rfl rfl Try.func35 (by kernel_rfl) rfl #[.slice Ao56 t147.length co56, .int .u64 (IntKind.u64.wrap (rd l0_3 x59_1))] rfl (by (try simp only [List.map_toArray, List.map_cons, List.map_nil]); first | done | rfl | (simp only [List.length_drop, List.length_take]; rfl)) ?_; (with_reducible refine (num_Put.calls k1 (fun k_ => some k_ = (.slice Ao56 t147.length co56 : Value).ownBlock) (.slice Ao56 t147.length co56) t147 (IntKind.u64.wrap (rd l0_3 x59_1)) t150 w _ ?side1 ?side2 A52.out).mono ?_); (case side1 => repeat (first | (with_reducible first | exact HB.out | apply below_alloc | apply pw_below_drewN | apply below_drew1 | refine below_set ?_ GE123.out) | exact HB.out)); (case side2 => exact Kd.R_tight rfl HO149.out); rintro e w57 ⟨v151, rfl, ho0, hb, hkp⟩; refine ⟨_, rfl, ?_⟩; have n0_ := Aside0.mk (blk_kept (by (with_reducible repeat (first | refine blk_drewN ?_ _ | refine blk_drew ?_ | refine blk_alloc ?_ _)); exact BK123.out) hkp (fun hs_ => (fun e_ => (Kd.R_ne HO149.out BK123.out (by decide)) e_) hs_)); have n1_ := Aside0.mk (Kd.R_mono (ok' := fun k_ => True) ho0 (fun k_ hk_ => trivial)); have n2_ := Aside0.mk (hb); clear BK123; clear HB; clear HO149; have BK123 := n0_; have HO152 := n1_; have HB := n2_; clear n0_ n1_ n2_; (try clear hb); (try clear hkp); (try clear ho0)))
                        go_roundg k1
                        case measure => have := HK1.out; omega
                        case rel => exact ⟨(t150), (wrap64 (x59_1 + 1)), (by first | rfl | (simp; done) | (simp [*]; done)), H', ⟨by have := HK1.out; omega⟩, ⟨by (with_reducible repeat (first | apply Kd.R_alloc | apply Kd.R_drewN | apply Kd.R_drew)); exact HO152.out⟩, ⟨by (with_reducible repeat (first | refine blk_drewN ?_ _ | refine blk_drew ?_ | refine blk_alloc ?_ _)); exact BK123.out⟩, ⟨by repeat (first | (with_reducible first | exact HB.out | apply below_alloc | apply pw_below_drewN | apply below_drew1 | refine below_set ?_ GE123.out) | exact HB.out)⟩⟩
                      · rw [if_neg c50] at H
                        exact absurd H (by simp)
                    · rw [if_neg c49] at H
                      exact absurd H (by simp)
                  · rw [if_neg c47] at H
                    have c47b0 : decide (0 < x59_1) = false := decide_eq_false c47
                    clear c47
                    replace H := Option.bind_eq_some_iff.mp H
                    obtain ⟨t153, A580, H⟩ := H
                    replace H : (page_Encode.l1 k1 t153 l0_3 (l0_3.length : Int) (wrap64 (x59_1 + 1)) a0_0 l0_1 l0_2 l0_3 a0_4 a0_5 a0_6 a0_7) = some (r1, r2) := H
                    have A58 := Aside0.mk A580
                    clear A580
                    have H' := Aside0.mk H
                    clear H
                    have p145 : 0 ≤ (x59_1 : Int) := of_decide_eq_true (by first | (with_reducible assumption) | assumption)
                    have q145 : x59_1 < (l0_3.length : Int) := of_decide_eq_true (by first | (with_reducible assumption) | assumption)
                    obtain ⟨ad145, e145, hx145_0⟩ := Kd.at_int HR0_3.out x59_1 p145 q145
                    cases e145
                    replace hx145_0 := (HB.out.cell (World.block_lt_of_cell? w _ hx145_0)).trans hx145_0
                    replace p145 := eq_true p145
                    replace q145 := eq_true q145
                    obtain ⟨Ao59, co59, eo59⟩ := Kd.R_slice HO_6.out
                    subst eo59
                    go_wp2_with (first | ((with_reducible refine gate_callee (f := 35) rfl ?_); refine goesL_ (some 77) rfl rfl Try.func35 (by kernel_rfl) rfl #[.slice Ao59 x6_1.length co59, .int .u64 (IntKind.u64.wrap (rd l0_3 x59_1))] rfl (by (try simp only [List.map_toArray, List.map_cons, List.map_nil]); first | done | rfl | (simp only [List.length_drop, List.length_take]; rfl)) ?_; (with_reducible refine (num_Put.calls k1 (fun k_ => some k_ = (.slice Ao59 x6_1.length co59 : Value).ownBlock) (.slice Ao59 x6_1.length co59) x6_1 (IntKind.u64.wrap (rd l0_3 x59_1)) t153 w _ ?side1 ?side2 A58.out).mono ?_); (case side1 => repeat (first | (with_reducible first | exact HB.out | apply below_alloc | apply pw_below_drewN | apply below_drew1 | refine below_set ?_ GE123.out) | exact HB.out)); (case side2 => exact Kd.R_tight rfl HO_6.out); rintro e w60 ⟨v154, rfl, ho0, hb, hkp⟩; refine ⟨_, rfl, ?_⟩; have n0_ := Aside0.mk (blk_kept (by (with_reducible repeat (first | refine blk_drewN ?_ _ | refine blk_drew ?_ | refine blk_alloc ?_ _)); exact BK123.out) hkp (fun hs_ => (fun e_ => (Kd.R_ne HO_6.out BK123.out (by decide)) e_) hs_)); have n1_ := Aside0.mk (Kd.R_mono (ok' := fun k_ => True) ho0 (fun k_ hk_ => trivial)); have n2_ := Aside0.mk (hb); clear BK123; clear HB; clear HO_6; have BK123 := n0_; have HO155 := n1_; have HB := n2_; clear n0_ n1_ n2_; (try clear hb); (try clear hkp); (try clear ho0)))
                    go_roundg k1
                    case measure => have := HK1.out; omega
                    case rel => exact ⟨(t153), (wrap64 (x59_1 + 1)), (by first | rfl | (simp; done) | (simp [*]; done)), H', ⟨by have := HK1.out; omega⟩, ⟨by (with_reducible repeat (first | apply Kd.R_alloc | apply Kd.R_drewN | apply Kd.R_drew)); exact HO155.out⟩, ⟨by (with_reducible repeat (first | refine blk_drewN ?_ _ | refine blk_drew ?_ | refine blk_alloc ?_ _)); exact BK123.out⟩, ⟨by repeat (first | (with_reducible first | exact HB.out | apply below_alloc | apply pw_below_drewN | apply below_drew1 | refine below_set ?_ GE123.out) | exact HB.out)⟩⟩
                · rw [if_neg c46] at H
                  exact absurd H (by simp)
              · rw [if_neg c45] at H
                exact absurd H (by simp)
            · rw [if_neg c44] at H
              have c44b0 : decide (x59_1 < (l0_3.length : Int)) = false := decide_eq_false c44
              clear c44
              simp only [Option.some.injEq, Prod.mk.injEq] at H
              obtain ⟨rfl, rfl⟩ := H
              go_wp2
              go_ret2
              exact ⟨_, by first | rfl | (simp [errW_none, errW_some] <;> rfl) | (simp [*, errW_none, errW_some] <;> rfl), by (with_reducible repeat (first | apply Kd.R_alloc | apply Kd.R_drewN | apply Kd.R_drew)); exact HO_6.out, by repeat (first | (with_reducible first | exact HB.out | apply below_alloc | apply pw_below_drewN | apply below_drew1 | refine below_set ?_ GE123.out) | exact HB.out)⟩
      · rw [if_neg c31] at H
        have c31b0 : (a0_0 == 2) = false := beq_eq_false_iff_ne.mpr c31
        have c31b1 : (a0_0 != 2) = true := bne_iff_ne.mpr c31
        by_cases c61 : a0_0 = 3
        · rw [if_pos c61] at H
          have c61b0 : (a0_0 == 3) = true := beq_iff_eq.mpr c61
          have c61b1 : (a0_0 != 3) = false := bne_eq_false_iff_eq.mpr c61
          clear c61
          replace H := Option.bind_eq_some_iff.mp H
          obtain ⟨t156, A620, H⟩ := H
          replace H : ((num_Put.f k t156 (IntKind.u64.wrap (a0_5))).bind fun t159 => ((num_Put.f k t159 (IntKind.u64.wrap (a0_6))).bind fun t162 => ((num_Put.f k t162 (IntKind.u64.wrap (a0_7))).bind fun t165 => (some (t165, 0))))) = some (r1, r2) := H
          have A62 := Aside0.mk A620
          clear A620
          replace H := Option.bind_eq_some_iff.mp H
          obtain ⟨t159, A630, H⟩ := H
          replace H : ((num_Put.f k t159 (IntKind.u64.wrap (a0_6))).bind fun t162 => ((num_Put.f k t162 (IntKind.u64.wrap (a0_7))).bind fun t165 => (some (t165, 0)))) = some (r1, r2) := H
          have A63 := Aside0.mk A630
          clear A630
          replace H := Option.bind_eq_some_iff.mp H
          obtain ⟨t162, A640, H⟩ := H
          replace H : ((num_Put.f k t162 (IntKind.u64.wrap (a0_7))).bind fun t165 => (some (t165, 0))) = some (r1, r2) := H
          have A64 := Aside0.mk A640
          clear A640
          replace H := Option.bind_eq_some_iff.mp H
          obtain ⟨t165, A650, H⟩ := H
          replace H : (some (t165, 0)) = some (r1, r2) := H
          have A65 := Aside0.mk A650
          clear A650
          simp only [Option.some.injEq, Prod.mk.injEq] at H
          obtain ⟨rfl, rfl⟩ := H
          go_enter Try.func16, Try.ntmps16
          try go_wp2_with (first | ((with_reducible refine gate_dst (N := 2) rfl ?_); refine box_event ?hg (N := 2) ?hd (cs := #[.int .i64 a0_0, .slice A0_1 l0_1.length c0_1, .slice A0_2 l0_2.length c0_2, .slice A0_3 l0_3.length c0_3, .int .i64 a0_4, .int .i64 a0_5, .int .i64 a0_6, .int .i64 a0_7]) (t := 27) ?hr ?_; (case hd => rfl); (case hg => rfl); (case hr => first | (go_simp; done) | (go_simp; rfl)); intro gb123 hg w66 hbox hb; have n0_ := Aside0.mk (below_step (by repeat (first | (with_reducible first | exact HB.out | apply below_alloc | apply pw_below_drewN | apply below_drew1) | exact HB.out)) hb); have n1_ := Aside0.mk (hbox); have n2_ := Aside0.mk ((by rw [hg]; exact (below_size (by repeat (first | (with_reducible first | exact HB.out | apply below_alloc | apply pw_below_drewN | apply below_drew1) | exact HB.out))) : w.heap.size ≤ gb123)); have n3_ := Aside0.mk ((by rw [hg]; exact (below_size (by repeat (first | (with_reducible first | exact HB.out | apply below_alloc | apply pw_below_drewN | apply below_drew1) | exact HB.out))) : w.heap.size ≤ gb123)); clear HB; have HB := n0_; have BK123 := n1_; have GW123 := n2_; have GE123 := n3_; clear n0_ n1_ n2_ n3_; clear hb hbox hg; have hcz67_0 : w66.cell? ⟨gb123, 0, none⟩ = some (.int .i64 a0_0) := (blk_cell BK123.out 0).trans rfl; have hcz67_1 : w66.cell? ⟨gb123, 1, none⟩ = some (.slice A0_1 l0_1.length c0_1) := (blk_cell BK123.out 1).trans rfl; have hcz67_2 : w66.cell? ⟨gb123, 2, none⟩ = some (.slice A0_2 l0_2.length c0_2) := (blk_cell BK123.out 2).trans rfl; have hcz67_3 : w66.cell? ⟨gb123, 3, none⟩ = some (.slice A0_3 l0_3.length c0_3) := (blk_cell BK123.out 3).trans rfl; have hcz67_4 : w66.cell? ⟨gb123, 4, none⟩ = some (.int .i64 a0_4) := (blk_cell BK123.out 4).trans rfl; have hcz67_5 : w66.cell? ⟨gb123, 5, none⟩ = some (.int .i64 a0_5) := (blk_cell BK123.out 5).trans rfl; have hcz67_6 : w66.cell? ⟨gb123, 6, none⟩ = some (.int .i64 a0_6) := (blk_cell BK123.out 6).trans rfl; have hcz67_7 : w66.cell? ⟨gb123, 7, none⟩ = some (.int .i64 a0_7) := (blk_cell BK123.out 7).trans rfl; have hfz67_0 := blk_frozen BK123.out 0; have hfz67_1 := blk_frozen BK123.out 1; have hfz67_2 := blk_frozen BK123.out 2; have hfz67_3 := blk_frozen BK123.out 3; have hfz67_4 := blk_frozen BK123.out 4; have hfz67_5 := blk_frozen BK123.out 5; have hfz67_6 := blk_frozen BK123.out 6; have hfz67_7 := blk_frozen BK123.out 7) | ((with_reducible refine gate_callee (f := 17) rfl ?_); refine goesL_ (some 12) rfl rfl Try.func17 (by kernel_rfl) rfl #[.agg #[.int .i64 a0_0, .slice A0_1 l0_1.length c0_1, .slice A0_2 l0_2.length c0_2, .slice A0_3 l0_3.length c0_3, .int .i64 a0_4, .int .i64 a0_5, .int .i64 a0_6, .int .i64 a0_7]] rfl (by (try simp only [List.map_toArray, List.map_cons, List.map_nil]); first | done | rfl | (simp only [List.length_drop, List.length_take]; rfl)) ?_; (with_reducible refine (page_Page_Right.calls k a0_0 _ _ l0_1 _ _ l0_2 _ _ l0_3 a0_4 a0_5 a0_6 a0_7 true _ ?side1 ?side2 ?side3 ?side4 ?side5 ?side6 A3.out).mono ?_); (case side1 => repeat (first | exact (Kd.C_below HR0_1.out HB.out) | (with_reducible refine Kd.C_alloc ?_ _) | (with_reducible refine Kd.C_drewN ?_ _) | (with_reducible refine Kd.C_drew ?_))); (case side2 => exact HC0_1.out); (case side3 => repeat (first | exact (Kd.C_below HR0_2.out HB.out) | (with_reducible refine Kd.C_alloc ?_ _) | (with_reducible refine Kd.C_drewN ?_ _) | (with_reducible refine Kd.C_drew ?_))); (case side4 => exact HC0_2.out); (case side5 => repeat (first | exact (Kd.C_below HR0_3.out HB.out) | (with_reducible refine Kd.C_alloc ?_ _) | (with_reducible refine Kd.C_drewN ?_ _) | (with_reducible refine Kd.C_drew ?_))); (case side6 => exact HC0_3.out); rintro e w68 ⟨rfl, hb⟩; refine ⟨_, rfl, ?_⟩; have n0_ := Aside0.mk (blk_below (g := gb123) (o := .cells #[.int .i64 a0_0, .slice A0_1 l0_1.length c0_1, .slice A0_2 l0_2.length c0_2, .slice A0_3 l0_3.length c0_3, .int .i64 a0_4, .int .i64 a0_5, .int .i64 a0_6, .int .i64 a0_7] 27 (0, 0)) (by (with_reducible repeat (first | refine blk_drewN ?_ _ | refine blk_drew ?_ | refine blk_alloc ?_ _)); exact BK123.out) hb); have n1_ := Aside0.mk (below_step (by repeat (first | (with_reducible first | exact HB.out | apply below_alloc | apply pw_below_drewN | apply below_drew1 | refine below_set ?_ GE123.out) | exact HB.out)) hb); clear BK123; clear HB; have BK123 := n0_; have HB := n1_; clear n0_ n1_; (try clear hb); (try clear hb2); (try clear hk); (try clear hi); have hcz69_0 : w68.cell? ⟨gb123, 0, none⟩ = some (.int .i64 a0_0) := (blk_cell BK123.out 0).trans rfl; have hcz69_1 : w68.cell? ⟨gb123, 1, none⟩ = some (.slice A0_1 l0_1.length c0_1) := (blk_cell BK123.out 1).trans rfl; have hcz69_2 : w68.cell? ⟨gb123, 2, none⟩ = some (.slice A0_2 l0_2.length c0_2) := (blk_cell BK123.out 2).trans rfl; have hcz69_3 : w68.cell? ⟨gb123, 3, none⟩ = some (.slice A0_3 l0_3.length c0_3) := (blk_cell BK123.out 3).trans rfl; have hcz69_4 : w68.cell? ⟨gb123, 4, none⟩ = some (.int .i64 a0_4) := (blk_cell BK123.out 4).trans rfl; have hcz69_5 : w68.cell? ⟨gb123, 5, none⟩ = some (.int .i64 a0_5) := (blk_cell BK123.out 5).trans rfl; have hcz69_6 : w68.cell? ⟨gb123, 6, none⟩ = some (.int .i64 a0_6) := (blk_cell BK123.out 6).trans rfl; have hcz69_7 : w68.cell? ⟨gb123, 7, none⟩ = some (.int .i64 a0_7) := (blk_cell BK123.out 7).trans rfl; have hfz69_0 := blk_frozen BK123.out 0; have hfz69_1 := blk_frozen BK123.out 1; have hfz69_2 := blk_frozen BK123.out 2; have hfz69_3 := blk_frozen BK123.out 3; have hfz69_4 := blk_frozen BK123.out 4; have hfz69_5 := blk_frozen BK123.out 5; have hfz69_6 := blk_frozen BK123.out 6; have hfz69_7 := blk_frozen BK123.out 7) | ((with_reducible refine gate_callee (f := 35) rfl ?_); refine goesL_ (some 17) rfl rfl Try.func35 (by kernel_rfl) rfl #[.slice none 0 0, .int .u64 (IntKind.u64.wrap (a0_0))] rfl (by (try simp only [List.map_toArray, List.map_cons, List.map_nil]); first | done | rfl | (simp only [List.length_drop, List.length_take]; rfl)) ?_; (refine (num_Put.calls k (fun k_ => some k_ = (.slice none 0 0 : Value).ownBlock) (.slice none 0 0) ([] : List Int) (IntKind.u64.wrap (a0_0)) t125 w _ ?side1 ?side2 A5.out).mono ?_); (case side1 => repeat (first | (with_reducible first | exact HB.out | apply below_alloc | apply pw_below_drewN | apply below_drew1 | refine below_set ?_ GE123.out) | exact HB.out)); (case side2 => exact Kd.R_nil _ _ _ _ _); rintro e w70 ⟨v126, rfl, ho0, hb, hkp⟩; refine ⟨_, rfl, ?_⟩; have n0_ := Aside0.mk (blk_kept (by (with_reducible repeat (first | refine blk_drewN ?_ _ | refine blk_drew ?_ | refine blk_alloc ?_ _)); exact BK123.out) hkp (fun hs_ => (fun e_ => by simp [Value.ownBlock] at e_) hs_)); have n1_ := Aside0.mk (Kd.R_mono (ok' := fun k_ => True) ho0 (fun k_ hk_ => trivial)); have n2_ := Aside0.mk (hb); clear BK123; clear HB; have BK123 := n0_; have HO127 := n1_; have HB := n2_; clear n0_ n1_ n2_; (try clear hb); (try clear hkp); (try clear ho0); obtain ⟨Ao71, co71, eo71⟩ := Kd.R_slice HO127.out; subst eo71) | ((with_reducible refine gate_callee (f := 35) rfl ?_); refine goesL_ (some 19) rfl rfl Try.func35 (by kernel_rfl) rfl #[.slice Ao71 t125.length co71, .int .u64 a1] rfl (by (try simp only [List.map_toArray, List.map_cons, List.map_nil]); first | done | rfl | (simp only [List.length_drop, List.length_take]; rfl)) ?_; (with_reducible refine (num_Put.calls k (fun k_ => some k_ = (.slice Ao71 t125.length co71 : Value).ownBlock) (.slice Ao71 t125.length co71) t125 a1 t128 w _ ?side1 ?side2 A6.out).mono ?_); (case side1 => repeat (first | (with_reducible first | exact HB.out | apply below_alloc | apply pw_below_drewN | apply below_drew1 | refine below_set ?_ GE123.out) | exact HB.out)); (case side2 => exact Kd.R_tight rfl HO127.out); rintro e w72 ⟨v129, rfl, ho0, hb, hkp⟩; refine ⟨_, rfl, ?_⟩; have n0_ := Aside0.mk (blk_kept (by (with_reducible repeat (first | refine blk_drewN ?_ _ | refine blk_drew ?_ | refine blk_alloc ?_ _)); exact BK123.out) hkp (fun hs_ => (fun e_ => (Kd.R_ne HO127.out BK123.out (by decide)) e_) hs_)); have n1_ := Aside0.mk (Kd.R_mono (ok' := fun k_ => True) ho0 (fun k_ hk_ => trivial)); have n2_ := Aside0.mk (hb); clear BK123; clear HB; clear HO127; have BK123 := n0_; have HO130 := n1_; have HB := n2_; clear n0_ n1_ n2_; (try clear hb); (try clear hkp); (try clear ho0); have hcz73_0 : w72.cell? ⟨gb123, 0, none⟩ = some (.int .i64 a0_0) := (blk_cell BK123.out 0).trans rfl; have hcz73_1 : w72.cell? ⟨gb123, 1, none⟩ = some (.slice A0_1 l0_1.length c0_1) := (blk_cell BK123.out 1).trans rfl; have hcz73_2 : w72.cell? ⟨gb123, 2, none⟩ = some (.slice A0_2 l0_2.length c0_2) := (blk_cell BK123.out 2).trans rfl; have hcz73_3 : w72.cell? ⟨gb123, 3, none⟩ = some (.slice A0_3 l0_3.length c0_3) := (blk_cell BK123.out 3).trans rfl; have hcz73_4 : w72.cell? ⟨gb123, 4, none⟩ = some (.int .i64 a0_4) := (blk_cell BK123.out 4).trans rfl; have hcz73_5 : w72.cell? ⟨gb123, 5, none⟩ = some (.int .i64 a0_5) := (blk_cell BK123.out 5).trans rfl; have hcz73_6 : w72.cell? ⟨gb123, 6, none⟩ = some (.int .i64 a0_6) := (blk_cell BK123.out 6).trans rfl; have hcz73_7 : w72.cell? ⟨gb123, 7, none⟩ = some (.int .i64 a0_7) := (blk_cell BK123.out 7).trans rfl; have hfz73_0 := blk_frozen BK123.out 0; have hfz73_1 := blk_frozen BK123.out 1; have hfz73_2 := blk_frozen BK123.out 2; have hfz73_3 := blk_frozen BK123.out 3; have hfz73_4 := blk_frozen BK123.out 4; have hfz73_5 := blk_frozen BK123.out 5; have hfz73_6 := blk_frozen BK123.out 6; have hfz73_7 := blk_frozen BK123.out 7))
          have n0_ := Aside0.mk (Kd.R_drew HO130.out)
          have n1_ := Aside0.mk (blk_drew BK123.out)
          have n2_ := Aside0.mk (below_drew1 HB.out)
          clear HO130
          clear BK123
          clear HB
          have HO130 := n0_
          have BK123 := n1_
          have HB := n2_
          clear n0_ n1_ n2_
          obtain ⟨Ao75, co75, eo75⟩ := Kd.R_slice HO130.out
          (first | subst eo75 | (injection eo75 with f1_ f2_ f3_; have f4_ := f1_.symm; have f5_ := f3_.symm; clear f1_ f2_ f3_; subst f4_; subst f5_))
          refine start_ (n := 18) (S := fun w' => w'.cell? ⟨gb123, 0, none⟩ = some (.int .i64 a0_0) ∧ w'.cell? ⟨gb123, 1, none⟩ = some (.slice A0_1 l0_1.length c0_1) ∧ w'.cell? ⟨gb123, 2, none⟩ = some (.slice A0_2 l0_2.length c0_2) ∧ w'.cell? ⟨gb123, 3, none⟩ = some (.slice A0_3 l0_3.length c0_3) ∧ w'.cell? ⟨gb123, 4, none⟩ = some (.int .i64 a0_4) ∧ w'.cell? ⟨gb123, 5, none⟩ = some (.int .i64 a0_5) ∧ w'.cell? ⟨gb123, 6, none⟩ = some (.int .i64 a0_6) ∧ w'.cell? ⟨gb123, 7, none⟩ = some (.int .i64 a0_7)) (ds := []) #[false, false, false, false, false, false, false, false, false, false, false, false, false, false, false, false, false, false] (by kernel_rfl) rfl rfl ⟨(blk_cell BK123.out 0).trans rfl, (blk_cell BK123.out 1).trans rfl, (blk_cell BK123.out 2).trans rfl, (blk_cell BK123.out 3).trans rfl, (blk_cell BK123.out 4).trans rfl, (blk_cell BK123.out 5).trans rfl, (blk_cell BK123.out 6).trans rfl, (blk_cell BK123.out 7).trans rfl⟩ (fun hHeld => ?_); refine with_tabW page_Encode.tab22 page_Encode.bits22 (fun HT_ HW_ => ?_)
          generalize w72.drew = w74 at HO130 BK123 HB hHeld ⊢
          refine pure_ (i := 0) (N := some 81) (v := ?_) (a' := ?_) #[true, false, false, false, false, false, false, false, false, false, false, false, false, false, false, false, false, false] rfl rfl (any_of HT_.out (by kernel_rfl)) (fun _ _ _ h => h) (Or.inl ⟨by rfl, ?_⟩) ?_ ?_
          rotate_left
          · intro w'
            go_simp
            with_reducible rfl
          rotate_left
          · simp only [Act.put, List.setIfInBounds_toArray, List.set_cons_zero, List.set_cons_succ, i64_w, i32_w]
            rfl
          refine pure_ (i := 1) (N := some 82) (v := ?_) (a' := ?_) #[true, true, false, false, false, false, false, false, false, false, false, false, false, false, false, false, false, false] rfl rfl (any_of HT_.out (by kernel_rfl)) (fun _ _ _ h => h) (Or.inl ⟨by rfl, ?_⟩) ?_ ?_
          rotate_left
          · intro w'
            go_simp
            with_reducible rfl
          rotate_left
          · simp only [Act.put, List.setIfInBounds_toArray, List.set_cons_zero, List.set_cons_succ, i64_w, i32_w]
            rfl
          refine pure_ (i := 5) (N := some 86) (v := ?_) (a' := ?_) #[true, true, false, false, false, true, false, false, false, false, false, false, false, false, false, false, false, false] rfl rfl (any_of HT_.out (by kernel_rfl)) (fun _ _ _ h => h) (Or.inl ⟨by rfl, ?_⟩) ?_ ?_
          rotate_left
          · intro w'
            go_simp
            with_reducible rfl
          rotate_left
          · simp only [Act.put, List.setIfInBounds_toArray, List.set_cons_zero, List.set_cons_succ, i64_w, i32_w]
            rfl
          refine pure_ (i := 9) (N := some 90) (v := ?_) (a' := ?_) #[true, true, false, false, false, true, false, false, false, true, false, false, false, false, false, false, false, false] rfl rfl (any_of HT_.out (by kernel_rfl)) (fun _ _ _ h => h) (Or.inl ⟨by rfl, ?_⟩) ?_ ?_
          rotate_left
          · intro w'
            go_simp
            with_reducible rfl
          rotate_left
          · simp only [Act.put, List.setIfInBounds_toArray, List.set_cons_zero, List.set_cons_succ, i64_w, i32_w]
            rfl
          refine pure_ (i := 13) (N := some 94) (v := ?_) (a' := ?_) #[true, true, false, false, false, true, false, false, false, true, false, false, false, true, false, false, false, false] rfl rfl (any_of HT_.out (by kernel_rfl)) (fun _ _ _ h => h) (Or.inl ⟨by rfl, ?_⟩) ?_ ?_
          rotate_left
          · intro w'
            go_simp
            with_reducible rfl
          rotate_left
          · simp only [Act.put, List.setIfInBounds_toArray, List.set_cons_zero, List.set_cons_succ, i64_w, i32_w]
            rfl
          refine take_ (i := 2) (N := some 83) (v := ?_) (a' := ?_) #[true, true, true, false, false, true, false, false, false, true, false, false, false, true, false, false, false, false] rfl rfl (take_ofW HT_.out HW_.out (by kernel_rfl)) (fun _ _ _ h => h) (Or.inl ⟨by rfl, ?_⟩) hHeld ?_ ?_
          rotate_left
          · rintro w' ⟨s0, s1, s2, s3, s4, s5, s6, s7⟩
            go_simp
            with_reducible rfl
          rotate_left
          · simp only [Act.put, List.setIfInBounds_toArray, List.set_cons_zero, List.set_cons_succ, i64_w, i32_w]
            rfl
          refine pure_ (i := 3) (N := some 84) (v := ?_) (a' := ?_) #[true, true, true, true, false, true, false, false, false, true, false, false, false, true, false, false, false, false] rfl rfl (any_of HT_.out (by kernel_rfl)) (fun _ _ _ h => h) (Or.inl ⟨by rfl, ?_⟩) ?_ ?_
          rotate_left
          · intro w'
            go_simp
            with_reducible rfl
          rotate_left
          · simp only [Act.put, List.setIfInBounds_toArray, List.set_cons_zero, List.set_cons_succ, i64_w, i32_w]
            rfl
          refine take_ (i := 6) (N := some 87) (v := ?_) (a' := ?_) #[true, true, true, true, false, true, true, false, false, true, false, false, false, true, false, false, false, false] rfl rfl (take_ofW HT_.out HW_.out (by kernel_rfl)) (fun _ _ _ h => h) (Or.inl ⟨by rfl, ?_⟩) hHeld ?_ ?_
          rotate_left
          · rintro w' ⟨s0, s1, s2, s3, s4, s5, s6, s7⟩
            go_simp
            with_reducible rfl
          rotate_left
          · simp only [Act.put, List.setIfInBounds_toArray, List.set_cons_zero, List.set_cons_succ, i64_w, i32_w]
            rfl
          refine pure_ (i := 7) (N := some 88) (v := ?_) (a' := ?_) #[true, true, true, true, false, true, true, true, false, true, false, false, false, true, false, false, false, false] rfl rfl (any_of HT_.out (by kernel_rfl)) (fun _ _ _ h => h) (Or.inl ⟨by rfl, ?_⟩) ?_ ?_
          rotate_left
          · intro w'
            go_simp
            with_reducible rfl
          rotate_left
          · simp only [Act.put, List.setIfInBounds_toArray, List.set_cons_zero, List.set_cons_succ, i64_w, i32_w]
            rfl
          refine take_ (i := 10) (N := some 91) (v := ?_) (a' := ?_) #[true, true, true, true, false, true, true, true, false, true, true, false, false, true, false, false, false, false] rfl rfl (take_ofW HT_.out HW_.out (by kernel_rfl)) (fun _ _ _ h => h) (Or.inl ⟨by rfl, ?_⟩) hHeld ?_ ?_
          rotate_left
          · rintro w' ⟨s0, s1, s2, s3, s4, s5, s6, s7⟩
            go_simp
            with_reducible rfl
          rotate_left
          · simp only [Act.put, List.setIfInBounds_toArray, List.set_cons_zero, List.set_cons_succ, i64_w, i32_w]
            rfl
          refine pure_ (i := 11) (N := some 92) (v := ?_) (a' := ?_) #[true, true, true, true, false, true, true, true, false, true, true, true, false, true, false, false, false, false] rfl rfl (any_of HT_.out (by kernel_rfl)) (fun _ _ _ h => h) (Or.inl ⟨by rfl, ?_⟩) ?_ ?_
          rotate_left
          · intro w'
            go_simp
            with_reducible rfl
          rotate_left
          · simp only [Act.put, List.setIfInBounds_toArray, List.set_cons_zero, List.set_cons_succ, i64_w, i32_w]
            rfl
          refine take_ (i := 14) (N := some 95) (v := ?_) (a' := ?_) #[true, true, true, true, false, true, true, true, false, true, true, true, false, true, true, false, false, false] rfl rfl (take_ofW HT_.out HW_.out (by kernel_rfl)) (fun _ _ _ h => h) (Or.inl ⟨by rfl, ?_⟩) hHeld ?_ ?_
          rotate_left
          · rintro w' ⟨s0, s1, s2, s3, s4, s5, s6, s7⟩
            go_simp
            with_reducible rfl
          rotate_left
          · simp only [Act.put, List.setIfInBounds_toArray, List.set_cons_zero, List.set_cons_succ, i64_w, i32_w]
            rfl
          refine pure_ (i := 15) (N := some 96) (v := ?_) (a' := ?_) #[true, true, true, true, false, true, true, true, false, true, true, true, false, true, true, true, false, false] rfl rfl (any_of HT_.out (by kernel_rfl)) (fun _ _ _ h => h) (Or.inl ⟨by rfl, ?_⟩) ?_ ?_
          rotate_left
          · intro w'
            go_simp
            with_reducible rfl
          rotate_left
          · simp only [Act.put, List.setIfInBounds_toArray, List.set_cons_zero, List.set_cons_succ, i64_w, i32_w]
            rfl
          refine one_ (i := 4) (N := some 85) #[true, true, true, true, true, true, true, true, false, true, true, true, false, true, true, true, false, false] rfl rfl (one_of HT_.out (by kernel_rfl)) (by decide) (fun K hK => ?_)
          refine goes_ Try.func35 (by kernel_rfl) rfl #[.slice Ao75 t128.length co75, .int .u64 (IntKind.u64.wrap (a0_4))] (by rfl) rfl rfl (by (try simp only [List.map_toArray, List.map_cons, List.map_nil]); first | done | rfl | (simp only [List.length_drop, List.length_take]; rfl)) ?_
          with_reducible refine (num_Put.calls k (fun k_ => some k_ = (.slice Ao75 t128.length co75 : Value).ownBlock) (.slice Ao75 t128.length co75) t128 (IntKind.u64.wrap (a0_4)) t156 w _ ?side1 ?side2 A62.out).mono ?_
          (case side1 => repeat (first | (with_reducible first | exact HB.out | apply below_alloc | apply pw_below_drewN | apply below_drew1 | refine below_set ?_ GE123.out) | exact HB.out))
          (case side2 => exact Kd.R_tight rfl HO130.out)
          rintro e w76 ⟨v157, rfl, ho0, hb, hkp⟩
          refine ⟨_, rfl, ?_⟩
          have n0_ := Aside0.mk (blk_kept (by (with_reducible repeat (first | refine blk_drewN ?_ _ | refine blk_drew ?_ | refine blk_alloc ?_ _)); exact BK123.out) hkp (fun hs_ => (fun e_ => (Kd.R_ne HO130.out BK123.out (by decide)) e_) hs_))
          have n1_ := Aside0.mk (Kd.R_mono (ok' := fun k_ => True) ho0 (fun k_ hk_ => trivial))
          have n2_ := Aside0.mk (hb)
          clear BK123
          clear HB
          clear HO130
          have BK123 := n0_
          have HO158 := n1_
          have HB := n2_
          clear n0_ n1_ n2_
          (try clear hb)
          (try clear hkp)
          (try clear ho0)
          obtain ⟨Ao77, co77, eo77⟩ := Kd.R_slice HO158.out
          (first | subst eo77 | (injection eo77 with f1_ f2_ f3_; have f4_ := f1_.symm; have f5_ := f3_.symm; clear f1_ f2_ f3_; subst f4_; subst f5_))
          refine hK.out _ _ ⟨(blk_cell BK123.out 0).trans rfl, (blk_cell BK123.out 1).trans rfl, (blk_cell BK123.out 2).trans rfl, (blk_cell BK123.out 3).trans rfl, (blk_cell BK123.out 4).trans rfl, (blk_cell BK123.out 5).trans rfl, (blk_cell BK123.out 6).trans rfl, (blk_cell BK123.out 7).trans rfl⟩ (fun hHeld => ?_)
          clear hK K
          refine norm_ (a' := ?_) ?_ ?_
          rotate_left
          · show Act.put _ (some 85) _ = _
            simp only [Act.put, List.setIfInBounds_toArray, List.set_cons_zero, List.set_cons_succ, i64_w, i32_w]
            rfl
          refine one_ (i := 8) (N := some 89) #[true, true, true, true, true, true, true, true, true, true, true, true, false, true, true, true, false, false] rfl rfl (one_of HT_.out (by kernel_rfl)) (by decide) (fun K hK => ?_)
          refine goes_ Try.func35 (by kernel_rfl) rfl #[.slice Ao77 t156.length co77, .int .u64 (IntKind.u64.wrap (a0_5))] (by rfl) rfl rfl (by (try simp only [List.map_toArray, List.map_cons, List.map_nil]); first | done | rfl | (simp only [List.length_drop, List.length_take]; rfl)) ?_
          with_reducible refine (num_Put.calls k (fun k_ => some k_ = (.slice Ao77 t156.length co77 : Value).ownBlock) (.slice Ao77 t156.length co77) t156 (IntKind.u64.wrap (a0_5)) t159 w _ ?side1 ?side2 A63.out).mono ?_
          (case side1 => repeat (first | (with_reducible first | exact HB.out | apply below_alloc | apply pw_below_drewN | apply below_drew1 | refine below_set ?_ GE123.out) | exact HB.out))
          (case side2 => exact Kd.R_tight rfl HO158.out)
          rintro e w78 ⟨v160, rfl, ho0, hb, hkp⟩
          refine ⟨_, rfl, ?_⟩
          have n0_ := Aside0.mk (blk_kept (by (with_reducible repeat (first | refine blk_drewN ?_ _ | refine blk_drew ?_ | refine blk_alloc ?_ _)); exact BK123.out) hkp (fun hs_ => (fun e_ => (Kd.R_ne HO158.out BK123.out (by decide)) e_) hs_))
          have n1_ := Aside0.mk (Kd.R_mono (ok' := fun k_ => True) ho0 (fun k_ hk_ => trivial))
          have n2_ := Aside0.mk (hb)
          clear BK123
          clear HB
          clear HO158
          have BK123 := n0_
          have HO161 := n1_
          have HB := n2_
          clear n0_ n1_ n2_
          (try clear hb)
          (try clear hkp)
          (try clear ho0)
          obtain ⟨Ao79, co79, eo79⟩ := Kd.R_slice HO161.out
          (first | subst eo79 | (injection eo79 with f1_ f2_ f3_; have f4_ := f1_.symm; have f5_ := f3_.symm; clear f1_ f2_ f3_; subst f4_; subst f5_))
          refine hK.out _ _ ⟨(blk_cell BK123.out 0).trans rfl, (blk_cell BK123.out 1).trans rfl, (blk_cell BK123.out 2).trans rfl, (blk_cell BK123.out 3).trans rfl, (blk_cell BK123.out 4).trans rfl, (blk_cell BK123.out 5).trans rfl, (blk_cell BK123.out 6).trans rfl, (blk_cell BK123.out 7).trans rfl⟩ (fun hHeld => ?_)
          clear hK K
          refine norm_ (a' := ?_) ?_ ?_
          rotate_left
          · show Act.put _ (some 89) _ = _
            simp only [Act.put, List.setIfInBounds_toArray, List.set_cons_zero, List.set_cons_succ, i64_w, i32_w]
            rfl
          refine one_ (i := 12) (N := some 93) #[true, true, true, true, true, true, true, true, true, true, true, true, true, true, true, true, false, false] rfl rfl (one_of HT_.out (by kernel_rfl)) (by decide) (fun K hK => ?_)
          refine goes_ Try.func35 (by kernel_rfl) rfl #[.slice Ao79 t159.length co79, .int .u64 (IntKind.u64.wrap (a0_6))] (by rfl) rfl rfl (by (try simp only [List.map_toArray, List.map_cons, List.map_nil]); first | done | rfl | (simp only [List.length_drop, List.length_take]; rfl)) ?_
          with_reducible refine (num_Put.calls k (fun k_ => some k_ = (.slice Ao79 t159.length co79 : Value).ownBlock) (.slice Ao79 t159.length co79) t159 (IntKind.u64.wrap (a0_6)) t162 w _ ?side1 ?side2 A64.out).mono ?_
          (case side1 => repeat (first | (with_reducible first | exact HB.out | apply below_alloc | apply pw_below_drewN | apply below_drew1 | refine below_set ?_ GE123.out) | exact HB.out))
          (case side2 => exact Kd.R_tight rfl HO161.out)
          rintro e w80 ⟨v163, rfl, ho0, hb, hkp⟩
          refine ⟨_, rfl, ?_⟩
          have n0_ := Aside0.mk (blk_kept (by (with_reducible repeat (first | refine blk_drewN ?_ _ | refine blk_drew ?_ | refine blk_alloc ?_ _)); exact BK123.out) hkp (fun hs_ => (fun e_ => (Kd.R_ne HO161.out BK123.out (by decide)) e_) hs_))
          have n1_ := Aside0.mk (Kd.R_mono (ok' := fun k_ => True) ho0 (fun k_ hk_ => trivial))
          have n2_ := Aside0.mk (hb)
          clear BK123
          clear HB
          clear HO161
          have BK123 := n0_
          have HO164 := n1_
          have HB := n2_
          clear n0_ n1_ n2_
          (try clear hb)
          (try clear hkp)
          (try clear ho0)
          obtain ⟨Ao81, co81, eo81⟩ := Kd.R_slice HO164.out
          (first | subst eo81 | (injection eo81 with f1_ f2_ f3_; have f4_ := f1_.symm; have f5_ := f3_.symm; clear f1_ f2_ f3_; subst f4_; subst f5_))
          refine hK.out _ _ ⟨(blk_cell BK123.out 0).trans rfl, (blk_cell BK123.out 1).trans rfl, (blk_cell BK123.out 2).trans rfl, (blk_cell BK123.out 3).trans rfl, (blk_cell BK123.out 4).trans rfl, (blk_cell BK123.out 5).trans rfl, (blk_cell BK123.out 6).trans rfl, (blk_cell BK123.out 7).trans rfl⟩ (fun hHeld => ?_)
          clear hK K
          refine norm_ (a' := ?_) ?_ ?_
          rotate_left
          · show Act.put _ (some 93) _ = _
            simp only [Act.put, List.setIfInBounds_toArray, List.set_cons_zero, List.set_cons_succ, i64_w, i32_w]
            rfl
          refine one_ (i := 16) (N := some 97) #[true, true, true, true, true, true, true, true, true, true, true, true, true, true, true, true, true, false] rfl rfl (one_of HT_.out (by kernel_rfl)) (by decide) (fun K hK => ?_)
          refine goes_ Try.func35 (by kernel_rfl) rfl #[.slice Ao81 t162.length co81, .int .u64 (IntKind.u64.wrap (a0_7))] (by rfl) rfl rfl (by (try simp only [List.map_toArray, List.map_cons, List.map_nil]); first | done | rfl | (simp only [List.length_drop, List.length_take]; rfl)) ?_
          with_reducible refine (num_Put.calls k (fun k_ => some k_ = (.slice Ao81 t162.length co81 : Value).ownBlock) (.slice Ao81 t162.length co81) t162 (IntKind.u64.wrap (a0_7)) t165 w _ ?side1 ?side2 A65.out).mono ?_
          (case side1 => repeat (first | (with_reducible first | exact HB.out | apply below_alloc | apply pw_below_drewN | apply below_drew1 | refine below_set ?_ GE123.out) | exact HB.out))
          (case side2 => exact Kd.R_tight rfl HO164.out)
          rintro e w82 ⟨v166, rfl, ho0, hb, hkp⟩
          refine ⟨_, rfl, ?_⟩
          have n0_ := Aside0.mk (blk_kept (by (with_reducible repeat (first | refine blk_drewN ?_ _ | refine blk_drew ?_ | refine blk_alloc ?_ _)); exact BK123.out) hkp (fun hs_ => (fun e_ => (Kd.R_ne HO164.out BK123.out (by decide)) e_) hs_))
          have n1_ := Aside0.mk (Kd.R_mono (ok' := fun k_ => True) ho0 (fun k_ hk_ => trivial))
          have n2_ := Aside0.mk (hb)
          clear BK123
          clear HB
          clear HO164
          have BK123 := n0_
          have HO167 := n1_
          have HB := n2_
          clear n0_ n1_ n2_
          (try clear hb)
          (try clear hkp)
          (try clear ho0)
          refine hK.out _ _ ⟨(blk_cell BK123.out 0).trans rfl, (blk_cell BK123.out 1).trans rfl, (blk_cell BK123.out 2).trans rfl, (blk_cell BK123.out 3).trans rfl, (blk_cell BK123.out 4).trans rfl, (blk_cell BK123.out 5).trans rfl, (blk_cell BK123.out 6).trans rfl, (blk_cell BK123.out 7).trans rfl⟩ (fun hHeld => ?_)
          clear hK K
          refine norm_ (a' := ?_) ?_ ?_
          rotate_left
          · show Act.put _ (some 97) _ = _
            simp only [Act.put, List.setIfInBounds_toArray, List.set_cons_zero, List.set_cons_succ, i64_w, i32_w]
            rfl
          refine pure_ (i := 17) (N := some 6) (v := ?_) (a' := ?_) #[true, true, true, true, true, true, true, true, true, true, true, true, true, true, true, true, true, true] rfl rfl (any_of HT_.out (by kernel_rfl)) (fun _ _ _ h => h) (Or.inl ⟨by rfl, ?_⟩) ?_ ?_
          rotate_left
          · intro w'
            go_simp
            with_reducible rfl
          rotate_left
          · simp only [Act.put, List.setIfInBounds_toArray, List.set_cons_zero, List.set_cons_succ, i64_w, i32_w]
            rfl
          refine done_ (done_of HT_.out (by kernel_rfl)) ?_
          try go_wp2
          go_ret2
          exact ⟨_, by first | rfl | (simp [errW_none, errW_some] <;> rfl) | (simp [*, errW_none, errW_some] <;> rfl), by (with_reducible repeat (first | apply Kd.R_alloc | apply Kd.R_drewN | apply Kd.R_drew)); exact HO167.out, by repeat (first | (with_reducible first | exact HB.out | apply below_alloc | apply pw_below_drewN | apply below_drew1 | refine below_set ?_ GE123.out) | exact HB.out)⟩
        · rw [if_neg c61] at H
          have c61b0 : (a0_0 == 3) = false := beq_eq_false_iff_ne.mpr c61
          have c61b1 : (a0_0 != 3) = true := bne_iff_ne.mpr c61
          by_cases c83 : a0_0 = 4
          · rw [if_pos c83] at H
            have c83b0 : (a0_0 == 4) = true := beq_iff_eq.mpr c83
            have c83b1 : (a0_0 != 4) = false := bne_eq_false_iff_eq.mpr c83
            clear c83
            replace H := Option.bind_eq_some_iff.mp H
            obtain ⟨t168, A840, H⟩ := H
            replace H : (some (t168, 0)) = some (r1, r2) := H
            have A84 := Aside0.mk A840
            clear A840
            simp only [Option.some.injEq, Prod.mk.injEq] at H
            obtain ⟨rfl, rfl⟩ := H
            go_enter Try.func16, Try.ntmps16
            go_wp2_with (first | ((with_reducible refine gate_dst (N := 2) rfl ?_); refine box_event ?hg (N := 2) ?hd (cs := #[.int .i64 a0_0, .slice A0_1 l0_1.length c0_1, .slice A0_2 l0_2.length c0_2, .slice A0_3 l0_3.length c0_3, .int .i64 a0_4, .int .i64 a0_5, .int .i64 a0_6, .int .i64 a0_7]) (t := 27) ?hr ?_; (case hd => rfl); (case hg => rfl); (case hr => first | (go_simp; done) | (go_simp; rfl)); intro gb123 hg w85 hbox hb; have n0_ := Aside0.mk (below_step (by repeat (first | (with_reducible first | exact HB.out | apply below_alloc | apply pw_below_drewN | apply below_drew1) | exact HB.out)) hb); have n1_ := Aside0.mk (hbox); have n2_ := Aside0.mk ((by rw [hg]; exact (below_size (by repeat (first | (with_reducible first | exact HB.out | apply below_alloc | apply pw_below_drewN | apply below_drew1) | exact HB.out))) : w.heap.size ≤ gb123)); have n3_ := Aside0.mk ((by rw [hg]; exact (below_size (by repeat (first | (with_reducible first | exact HB.out | apply below_alloc | apply pw_below_drewN | apply below_drew1) | exact HB.out))) : w.heap.size ≤ gb123)); clear HB; have HB := n0_; have BK123 := n1_; have GW123 := n2_; have GE123 := n3_; clear n0_ n1_ n2_ n3_; clear hb hbox hg; have hcz86_0 : w85.cell? ⟨gb123, 0, none⟩ = some (.int .i64 a0_0) := (blk_cell BK123.out 0).trans rfl; have hcz86_1 : w85.cell? ⟨gb123, 1, none⟩ = some (.slice A0_1 l0_1.length c0_1) := (blk_cell BK123.out 1).trans rfl; have hcz86_2 : w85.cell? ⟨gb123, 2, none⟩ = some (.slice A0_2 l0_2.length c0_2) := (blk_cell BK123.out 2).trans rfl; have hcz86_3 : w85.cell? ⟨gb123, 3, none⟩ = some (.slice A0_3 l0_3.length c0_3) := (blk_cell BK123.out 3).trans rfl; have hcz86_4 : w85.cell? ⟨gb123, 4, none⟩ = some (.int .i64 a0_4) := (blk_cell BK123.out 4).trans rfl; have hcz86_5 : w85.cell? ⟨gb123, 5, none⟩ = some (.int .i64 a0_5) := (blk_cell BK123.out 5).trans rfl; have hcz86_6 : w85.cell? ⟨gb123, 6, none⟩ = some (.int .i64 a0_6) := (blk_cell BK123.out 6).trans rfl; have hcz86_7 : w85.cell? ⟨gb123, 7, none⟩ = some (.int .i64 a0_7) := (blk_cell BK123.out 7).trans rfl; have hfz86_0 := blk_frozen BK123.out 0; have hfz86_1 := blk_frozen BK123.out 1; have hfz86_2 := blk_frozen BK123.out 2; have hfz86_3 := blk_frozen BK123.out 3; have hfz86_4 := blk_frozen BK123.out 4; have hfz86_5 := blk_frozen BK123.out 5; have hfz86_6 := blk_frozen BK123.out 6; have hfz86_7 := blk_frozen BK123.out 7) | ((with_reducible refine gate_callee (f := 17) rfl ?_); refine goesL_ (some 12) rfl rfl Try.func17 (by kernel_rfl) rfl #[.agg #[.int .i64 a0_0, .slice A0_1 l0_1.length c0_1, .slice A0_2 l0_2.length c0_2, .slice A0_3 l0_3.length c0_3, .int .i64 a0_4, .int .i64 a0_5, .int .i64 a0_6, .int .i64 a0_7]] rfl (by (try simp only [List.map_toArray, List.map_cons, List.map_nil]); first | done | rfl | (simp only [List.length_drop, List.length_take]; rfl)) ?_; (with_reducible refine (page_Page_Right.calls k a0_0 _ _ l0_1 _ _ l0_2 _ _ l0_3 a0_4 a0_5 a0_6 a0_7 true _ ?side1 ?side2 ?side3 ?side4 ?side5 ?side6 A3.out).mono ?_); (case side1 => repeat (first | exact (Kd.C_below HR0_1.out HB.out) | (with_reducible refine Kd.C_alloc ?_ _) | (with_reducible refine Kd.C_drewN ?_ _) | (with_reducible refine Kd.C_drew ?_))); (case side2 => exact HC0_1.out); (case side3 => repeat (first | exact (Kd.C_below HR0_2.out HB.out) | (with_reducible refine Kd.C_alloc ?_ _) | (with_reducible refine Kd.C_drewN ?_ _) | (with_reducible refine Kd.C_drew ?_))); (case side4 => exact HC0_2.out); (case side5 => repeat (first | exact (Kd.C_below HR0_3.out HB.out) | (with_reducible refine Kd.C_alloc ?_ _) | (with_reducible refine Kd.C_drewN ?_ _) | (with_reducible refine Kd.C_drew ?_))); (case side6 => exact HC0_3.out); rintro e w87 ⟨rfl, hb⟩; refine ⟨_, rfl, ?_⟩; have n0_ := Aside0.mk (blk_below (g := gb123) (o := .cells #[.int .i64 a0_0, .slice A0_1 l0_1.length c0_1, .slice A0_2 l0_2.length c0_2, .slice A0_3 l0_3.length c0_3, .int .i64 a0_4, .int .i64 a0_5, .int .i64 a0_6, .int .i64 a0_7] 27 (0, 0)) (by (with_reducible repeat (first | refine blk_drewN ?_ _ | refine blk_drew ?_ | refine blk_alloc ?_ _)); exact BK123.out) hb); have n1_ := Aside0.mk (below_step (by repeat (first | (with_reducible first | exact HB.out | apply below_alloc | apply pw_below_drewN | apply below_drew1 | refine below_set ?_ GE123.out) | exact HB.out)) hb); clear BK123; clear HB; have BK123 := n0_; have HB := n1_; clear n0_ n1_; (try clear hb); (try clear hb2); (try clear hk); (try clear hi); have hcz88_0 : w87.cell? ⟨gb123, 0, none⟩ = some (.int .i64 a0_0) := (blk_cell BK123.out 0).trans rfl; have hcz88_1 : w87.cell? ⟨gb123, 1, none⟩ = some (.slice A0_1 l0_1.length c0_1) := (blk_cell BK123.out 1).trans rfl; have hcz88_2 : w87.cell? ⟨gb123, 2, none⟩ = some (.slice A0_2 l0_2.length c0_2) := (blk_cell BK123.out 2).trans rfl; have hcz88_3 : w87.cell? ⟨gb123, 3, none⟩ = some (.slice A0_3 l0_3.length c0_3) := (blk_cell BK123.out 3).trans rfl; have hcz88_4 : w87.cell? ⟨gb123, 4, none⟩ = some (.int .i64 a0_4) := (blk_cell BK123.out 4).trans rfl; have hcz88_5 : w87.cell? ⟨gb123, 5, none⟩ = some (.int .i64 a0_5) := (blk_cell BK123.out 5).trans rfl; have hcz88_6 : w87.cell? ⟨gb123, 6, none⟩ = some (.int .i64 a0_6) := (blk_cell BK123.out 6).trans rfl; have hcz88_7 : w87.cell? ⟨gb123, 7, none⟩ = some (.int .i64 a0_7) := (blk_cell BK123.out 7).trans rfl; have hfz88_0 := blk_frozen BK123.out 0; have hfz88_1 := blk_frozen BK123.out 1; have hfz88_2 := blk_frozen BK123.out 2; have hfz88_3 := blk_frozen BK123.out 3; have hfz88_4 := blk_frozen BK123.out 4; have hfz88_5 := blk_frozen BK123.out 5; have hfz88_6 := blk_frozen BK123.out 6; have hfz88_7 := blk_frozen BK123.out 7) | ((with_reducible refine gate_callee (f := 35) rfl ?_); refine goesL_ (some 17) rfl rfl Try.func35 (by kernel_rfl) rfl #[.slice none 0 0, .int .u64 (IntKind.u64.wrap (a0_0))] rfl (by (try simp only [List.map_toArray, List.map_cons, List.map_nil]); first | done | rfl | (simp only [List.length_drop, List.length_take]; rfl)) ?_; (refine (num_Put.calls k (fun k_ => some k_ = (.slice none 0 0 : Value).ownBlock) (.slice none 0 0) ([] : List Int) (IntKind.u64.wrap (a0_0)) t125 w _ ?side1 ?side2 A5.out).mono ?_); (case side1 => repeat (first | (with_reducible first | exact HB.out | apply below_alloc | apply pw_below_drewN | apply below_drew1 | refine below_set ?_ GE123.out) | exact HB.out)); (case side2 => exact Kd.R_nil _ _ _ _ _); rintro e w89 ⟨v126, rfl, ho0, hb, hkp⟩; refine ⟨_, rfl, ?_⟩; have n0_ := Aside0.mk (blk_kept (by (with_reducible repeat (first | refine blk_drewN ?_ _ | refine blk_drew ?_ | refine blk_alloc ?_ _)); exact BK123.out) hkp (fun hs_ => (fun e_ => by simp [Value.ownBlock] at e_) hs_)); have n1_ := Aside0.mk (Kd.R_mono (ok' := fun k_ => True) ho0 (fun k_ hk_ => trivial)); have n2_ := Aside0.mk (hb); clear BK123; clear HB; have BK123 := n0_; have HO127 := n1_; have HB := n2_; clear n0_ n1_ n2_; (try clear hb); (try clear hkp); (try clear ho0); obtain ⟨Ao90, co90, eo90⟩ := Kd.R_slice HO127.out; subst eo90) | ((with_reducible refine gate_callee (f := 35) rfl ?_); refine goesL_ (some 19) rfl rfl Try.func35 (by kernel_rfl) rfl #[.slice Ao90 t125.length co90, .int .u64 a1] rfl (by (try simp only [List.map_toArray, List.map_cons, List.map_nil]); first | done | rfl | (simp only [List.length_drop, List.length_take]; rfl)) ?_; (with_reducible refine (num_Put.calls k (fun k_ => some k_ = (.slice Ao90 t125.length co90 : Value).ownBlock) (.slice Ao90 t125.length co90) t125 a1 t128 w _ ?side1 ?side2 A6.out).mono ?_); (case side1 => repeat (first | (with_reducible first | exact HB.out | apply below_alloc | apply pw_below_drewN | apply below_drew1 | refine below_set ?_ GE123.out) | exact HB.out)); (case side2 => exact Kd.R_tight rfl HO127.out); rintro e w91 ⟨v129, rfl, ho0, hb, hkp⟩; refine ⟨_, rfl, ?_⟩; have n0_ := Aside0.mk (blk_kept (by (with_reducible repeat (first | refine blk_drewN ?_ _ | refine blk_drew ?_ | refine blk_alloc ?_ _)); exact BK123.out) hkp (fun hs_ => (fun e_ => (Kd.R_ne HO127.out BK123.out (by decide)) e_) hs_)); have n1_ := Aside0.mk (Kd.R_mono (ok' := fun k_ => True) ho0 (fun k_ hk_ => trivial)); have n2_ := Aside0.mk (hb); clear BK123; clear HB; clear HO127; have BK123 := n0_; have HO130 := n1_; have HB := n2_; clear n0_ n1_ n2_; (try clear hb); (try clear hkp); (try clear ho0); have hcz92_0 : w91.cell? ⟨gb123, 0, none⟩ = some (.int .i64 a0_0) := (blk_cell BK123.out 0).trans rfl; have hcz92_1 : w91.cell? ⟨gb123, 1, none⟩ = some (.slice A0_1 l0_1.length c0_1) := (blk_cell BK123.out 1).trans rfl; have hcz92_2 : w91.cell? ⟨gb123, 2, none⟩ = some (.slice A0_2 l0_2.length c0_2) := (blk_cell BK123.out 2).trans rfl; have hcz92_3 : w91.cell? ⟨gb123, 3, none⟩ = some (.slice A0_3 l0_3.length c0_3) := (blk_cell BK123.out 3).trans rfl; have hcz92_4 : w91.cell? ⟨gb123, 4, none⟩ = some (.int .i64 a0_4) := (blk_cell BK123.out 4).trans rfl; have hcz92_5 : w91.cell? ⟨gb123, 5, none⟩ = some (.int .i64 a0_5) := (blk_cell BK123.out 5).trans rfl; have hcz92_6 : w91.cell? ⟨gb123, 6, none⟩ = some (.int .i64 a0_6) := (blk_cell BK123.out 6).trans rfl; have hcz92_7 : w91.cell? ⟨gb123, 7, none⟩ = some (.int .i64 a0_7) := (blk_cell BK123.out 7).trans rfl; have hfz92_0 := blk_frozen BK123.out 0; have hfz92_1 := blk_frozen BK123.out 1; have hfz92_2 := blk_frozen BK123.out 2; have hfz92_3 := blk_frozen BK123.out 3; have hfz92_4 := blk_frozen BK123.out 4; have hfz92_5 := blk_frozen BK123.out 5; have hfz92_6 := blk_frozen BK123.out 6; have hfz92_7 := blk_frozen BK123.out 7; obtain ⟨Ao93, co93, eo93⟩ := Kd.R_slice HO130.out; subst eo93) | ((with_reducible refine gate_callee (f := 35) rfl ?_); refine goesL_ (some 104) rfl rfl Try.func35 (by kernel_rfl) rfl #[.slice Ao93 t128.length co93, .int .u64 (IntKind.u64.wrap (a0_5))] rfl (by (try simp only [List.map_toArray, List.map_cons, List.map_nil]); first | done | rfl | (simp only [List.length_drop, List.length_take]; rfl)) ?_; (with_reducible refine (num_Put.calls k (fun k_ => some k_ = (.slice Ao93 t128.length co93 : Value).ownBlock) (.slice Ao93 t128.length co93) t128 (IntKind.u64.wrap (a0_5)) t168 w _ ?side1 ?side2 A84.out).mono ?_); (case side1 => repeat (first | (with_reducible first | exact HB.out | apply below_alloc | apply pw_below_drewN | apply below_drew1 | refine below_set ?_ GE123.out) | exact HB.out)); (case side2 => exact Kd.R_tight rfl HO130.out); rintro e w94 ⟨v169, rfl, ho0, hb, hkp⟩; refine ⟨_, rfl, ?_⟩; have n0_ := Aside0.mk (blk_kept (by (with_reducible repeat (first | refine blk_drewN ?_ _ | refine blk_drew ?_ | refine blk_alloc ?_ _)); exact BK123.out) hkp (fun hs_ => (fun e_ => (Kd.R_ne HO130.out BK123.out (by decide)) e_) hs_)); have n1_ := Aside0.mk (Kd.R_mono (ok' := fun k_ => True) ho0 (fun k_ hk_ => trivial)); have n2_ := Aside0.mk (hb); clear BK123; clear HB; clear HO130; have BK123 := n0_; have HO170 := n1_; have HB := n2_; clear n0_ n1_ n2_; (try clear hb); (try clear hkp); (try clear ho0)))
            go_ret2
            exact ⟨_, by first | rfl | (simp [errW_none, errW_some] <;> rfl) | (simp [*, errW_none, errW_some] <;> rfl), by (with_reducible repeat (first | apply Kd.R_alloc | apply Kd.R_drewN | apply Kd.R_drew)); exact HO170.out, by repeat (first | (with_reducible first | exact HB.out | apply below_alloc | apply pw_below_drewN | apply below_drew1 | refine below_set ?_ GE123.out) | exact HB.out)⟩
          · rw [if_neg c83] at H
            have c83b0 : (a0_0 == 4) = false := beq_eq_false_iff_ne.mpr c83
            have c83b1 : (a0_0 != 4) = true := bne_iff_ne.mpr c83
            simp only [Option.some.injEq, Prod.mk.injEq] at H
            obtain ⟨rfl, rfl⟩ := H
            go_enter Try.func16, Try.ntmps16
            go_wp2_with (first | ((with_reducible refine gate_dst (N := 2) rfl ?_); refine box_event ?hg (N := 2) ?hd (cs := #[.int .i64 a0_0, .slice A0_1 l0_1.length c0_1, .slice A0_2 l0_2.length c0_2, .slice A0_3 l0_3.length c0_3, .int .i64 a0_4, .int .i64 a0_5, .int .i64 a0_6, .int .i64 a0_7]) (t := 27) ?hr ?_; (case hd => rfl); (case hg => rfl); (case hr => first | (go_simp; done) | (go_simp; rfl)); intro gb123 hg w95 hbox hb; have n0_ := Aside0.mk (below_step (by repeat (first | (with_reducible first | exact HB.out | apply below_alloc | apply pw_below_drewN | apply below_drew1) | exact HB.out)) hb); have n1_ := Aside0.mk (hbox); have n2_ := Aside0.mk ((by rw [hg]; exact (below_size (by repeat (first | (with_reducible first | exact HB.out | apply below_alloc | apply pw_below_drewN | apply below_drew1) | exact HB.out))) : w.heap.size ≤ gb123)); have n3_ := Aside0.mk ((by rw [hg]; exact (below_size (by repeat (first | (with_reducible first | exact HB.out | apply below_alloc | apply pw_below_drewN | apply below_drew1) | exact HB.out))) : w.heap.size ≤ gb123)); clear HB; have HB := n0_; have BK123 := n1_; have GW123 := n2_; have GE123 := n3_; clear n0_ n1_ n2_ n3_; clear hb hbox hg; have hcz96_0 : w95.cell? ⟨gb123, 0, none⟩ = some (.int .i64 a0_0) := (blk_cell BK123.out 0).trans rfl; have hcz96_1 : w95.cell? ⟨gb123, 1, none⟩ = some (.slice A0_1 l0_1.length c0_1) := (blk_cell BK123.out 1).trans rfl; have hcz96_2 : w95.cell? ⟨gb123, 2, none⟩ = some (.slice A0_2 l0_2.length c0_2) := (blk_cell BK123.out 2).trans rfl; have hcz96_3 : w95.cell? ⟨gb123, 3, none⟩ = some (.slice A0_3 l0_3.length c0_3) := (blk_cell BK123.out 3).trans rfl; have hcz96_4 : w95.cell? ⟨gb123, 4, none⟩ = some (.int .i64 a0_4) := (blk_cell BK123.out 4).trans rfl; have hcz96_5 : w95.cell? ⟨gb123, 5, none⟩ = some (.int .i64 a0_5) := (blk_cell BK123.out 5).trans rfl; have hcz96_6 : w95.cell? ⟨gb123, 6, none⟩ = some (.int .i64 a0_6) := (blk_cell BK123.out 6).trans rfl; have hcz96_7 : w95.cell? ⟨gb123, 7, none⟩ = some (.int .i64 a0_7) := (blk_cell BK123.out 7).trans rfl; have hfz96_0 := blk_frozen BK123.out 0; have hfz96_1 := blk_frozen BK123.out 1; have hfz96_2 := blk_frozen BK123.out 2; have hfz96_3 := blk_frozen BK123.out 3; have hfz96_4 := blk_frozen BK123.out 4; have hfz96_5 := blk_frozen BK123.out 5; have hfz96_6 := blk_frozen BK123.out 6; have hfz96_7 := blk_frozen BK123.out 7) | ((with_reducible refine gate_callee (f := 17) rfl ?_); refine goesL_ (some 12) rfl rfl Try.func17 (by kernel_rfl) rfl #[.agg #[.int .i64 a0_0, .slice A0_1 l0_1.length c0_1, .slice A0_2 l0_2.length c0_2, .slice A0_3 l0_3.length c0_3, .int .i64 a0_4, .int .i64 a0_5, .int .i64 a0_6, .int .i64 a0_7]] rfl (by (try simp only [List.map_toArray, List.map_cons, List.map_nil]); first | done | rfl | (simp only [List.length_drop, List.length_take]; rfl)) ?_; (with_reducible refine (page_Page_Right.calls k a0_0 _ _ l0_1 _ _ l0_2 _ _ l0_3 a0_4 a0_5 a0_6 a0_7 true _ ?side1 ?side2 ?side3 ?side4 ?side5 ?side6 A3.out).mono ?_); (case side1 => repeat (first | exact (Kd.C_below HR0_1.out HB.out) | (with_reducible refine Kd.C_alloc ?_ _) | (with_reducible refine Kd.C_drewN ?_ _) | (with_reducible refine Kd.C_drew ?_))); (case side2 => exact HC0_1.out); (case side3 => repeat (first | exact (Kd.C_below HR0_2.out HB.out) | (with_reducible refine Kd.C_alloc ?_ _) | (with_reducible refine Kd.C_drewN ?_ _) | (with_reducible refine Kd.C_drew ?_))); (case side4 => exact HC0_2.out); (case side5 => repeat (first | exact (Kd.C_below HR0_3.out HB.out) | (with_reducible refine Kd.C_alloc ?_ _) | (with_reducible refine Kd.C_drewN ?_ _) | (with_reducible refine Kd.C_drew ?_))); (case side6 => exact HC0_3.out); rintro e w97 ⟨rfl, hb⟩; refine ⟨_, rfl, ?_⟩; have n0_ := Aside0.mk (blk_below (g := gb123) (o := .cells #[.int .i64 a0_0, .slice A0_1 l0_1.length c0_1, .slice A0_2 l0_2.length c0_2, .slice A0_3 l0_3.length c0_3, .int .i64 a0_4, .int .i64 a0_5, .int .i64 a0_6, .int .i64 a0_7] 27 (0, 0)) (by (with_reducible repeat (first | refine blk_drewN ?_ _ | refine blk_drew ?_ | refine blk_alloc ?_ _)); exact BK123.out) hb); have n1_ := Aside0.mk (below_step (by repeat (first | (with_reducible first | exact HB.out | apply below_alloc | apply pw_below_drewN | apply below_drew1 | refine below_set ?_ GE123.out) | exact HB.out)) hb); clear BK123; clear HB; have BK123 := n0_; have HB := n1_; clear n0_ n1_; (try clear hb); (try clear hb2); (try clear hk); (try clear hi); have hcz98_0 : w97.cell? ⟨gb123, 0, none⟩ = some (.int .i64 a0_0) := (blk_cell BK123.out 0).trans rfl; have hcz98_1 : w97.cell? ⟨gb123, 1, none⟩ = some (.slice A0_1 l0_1.length c0_1) := (blk_cell BK123.out 1).trans rfl; have hcz98_2 : w97.cell? ⟨gb123, 2, none⟩ = some (.slice A0_2 l0_2.length c0_2) := (blk_cell BK123.out 2).trans rfl; have hcz98_3 : w97.cell? ⟨gb123, 3, none⟩ = some (.slice A0_3 l0_3.length c0_3) := (blk_cell BK123.out 3).trans rfl; have hcz98_4 : w97.cell? ⟨gb123, 4, none⟩ = some (.int .i64 a0_4) := (blk_cell BK123.out 4).trans rfl; have hcz98_5 : w97.cell? ⟨gb123, 5, none⟩ = some (.int .i64 a0_5) := (blk_cell BK123.out 5).trans rfl; have hcz98_6 : w97.cell? ⟨gb123, 6, none⟩ = some (.int .i64 a0_6) := (blk_cell BK123.out 6).trans rfl; have hcz98_7 : w97.cell? ⟨gb123, 7, none⟩ = some (.int .i64 a0_7) := (blk_cell BK123.out 7).trans rfl; have hfz98_0 := blk_frozen BK123.out 0; have hfz98_1 := blk_frozen BK123.out 1; have hfz98_2 := blk_frozen BK123.out 2; have hfz98_3 := blk_frozen BK123.out 3; have hfz98_4 := blk_frozen BK123.out 4; have hfz98_5 := blk_frozen BK123.out 5; have hfz98_6 := blk_frozen BK123.out 6; have hfz98_7 := blk_frozen BK123.out 7) | ((with_reducible refine gate_callee (f := 35) rfl ?_); refine goesL_ (some 17) rfl rfl Try.func35 (by kernel_rfl) rfl #[.slice none 0 0, .int .u64 (IntKind.u64.wrap (a0_0))] rfl (by (try simp only [List.map_toArray, List.map_cons, List.map_nil]); first | done | rfl | (simp only [List.length_drop, List.length_take]; rfl)) ?_; (refine (num_Put.calls k (fun k_ => some k_ = (.slice none 0 0 : Value).ownBlock) (.slice none 0 0) ([] : List Int) (IntKind.u64.wrap (a0_0)) t125 w _ ?side1 ?side2 A5.out).mono ?_); (case side1 => repeat (first | (with_reducible first | exact HB.out | apply below_alloc | apply pw_below_drewN | apply below_drew1 | refine below_set ?_ GE123.out) | exact HB.out)); (case side2 => exact Kd.R_nil _ _ _ _ _); rintro e w99 ⟨v126, rfl, ho0, hb, hkp⟩; refine ⟨_, rfl, ?_⟩; have n0_ := Aside0.mk (blk_kept (by (with_reducible repeat (first | refine blk_drewN ?_ _ | refine blk_drew ?_ | refine blk_alloc ?_ _)); exact BK123.out) hkp (fun hs_ => (fun e_ => by simp [Value.ownBlock] at e_) hs_)); have n1_ := Aside0.mk (Kd.R_mono (ok' := fun k_ => True) ho0 (fun k_ hk_ => trivial)); have n2_ := Aside0.mk (hb); clear BK123; clear HB; have BK123 := n0_; have HO127 := n1_; have HB := n2_; clear n0_ n1_ n2_; (try clear hb); (try clear hkp); (try clear ho0); obtain ⟨Ao100, co100, eo100⟩ := Kd.R_slice HO127.out; subst eo100) | ((with_reducible refine gate_callee (f := 35) rfl ?_); refine goesL_ (some 19) rfl rfl Try.func35 (by kernel_rfl) rfl #[.slice Ao100 t125.length co100, .int .u64 a1] rfl (by (try simp only [List.map_toArray, List.map_cons, List.map_nil]); first | done | rfl | (simp only [List.length_drop, List.length_take]; rfl)) ?_; (with_reducible refine (num_Put.calls k (fun k_ => some k_ = (.slice Ao100 t125.length co100 : Value).ownBlock) (.slice Ao100 t125.length co100) t125 a1 t128 w _ ?side1 ?side2 A6.out).mono ?_); (case side1 => repeat (first | (with_reducible first | exact HB.out | apply below_alloc | apply pw_below_drewN | apply below_drew1 | refine below_set ?_ GE123.out) | exact HB.out)); (case side2 => exact Kd.R_tight rfl HO127.out); rintro e w101 ⟨v129, rfl, ho0, hb, hkp⟩; refine ⟨_, rfl, ?_⟩; have n0_ := Aside0.mk (blk_kept (by (with_reducible repeat (first | refine blk_drewN ?_ _ | refine blk_drew ?_ | refine blk_alloc ?_ _)); exact BK123.out) hkp (fun hs_ => (fun e_ => (Kd.R_ne HO127.out BK123.out (by decide)) e_) hs_)); have n1_ := Aside0.mk (Kd.R_mono (ok' := fun k_ => True) ho0 (fun k_ hk_ => trivial)); have n2_ := Aside0.mk (hb); clear BK123; clear HB; clear HO127; have BK123 := n0_; have HO130 := n1_; have HB := n2_; clear n0_ n1_ n2_; (try clear hb); (try clear hkp); (try clear ho0); have hcz102_0 : w101.cell? ⟨gb123, 0, none⟩ = some (.int .i64 a0_0) := (blk_cell BK123.out 0).trans rfl; have hcz102_1 : w101.cell? ⟨gb123, 1, none⟩ = some (.slice A0_1 l0_1.length c0_1) := (blk_cell BK123.out 1).trans rfl; have hcz102_2 : w101.cell? ⟨gb123, 2, none⟩ = some (.slice A0_2 l0_2.length c0_2) := (blk_cell BK123.out 2).trans rfl; have hcz102_3 : w101.cell? ⟨gb123, 3, none⟩ = some (.slice A0_3 l0_3.length c0_3) := (blk_cell BK123.out 3).trans rfl; have hcz102_4 : w101.cell? ⟨gb123, 4, none⟩ = some (.int .i64 a0_4) := (blk_cell BK123.out 4).trans rfl; have hcz102_5 : w101.cell? ⟨gb123, 5, none⟩ = some (.int .i64 a0_5) := (blk_cell BK123.out 5).trans rfl; have hcz102_6 : w101.cell? ⟨gb123, 6, none⟩ = some (.int .i64 a0_6) := (blk_cell BK123.out 6).trans rfl; have hcz102_7 : w101.cell? ⟨gb123, 7, none⟩ = some (.int .i64 a0_7) := (blk_cell BK123.out 7).trans rfl; have hfz102_0 := blk_frozen BK123.out 0; have hfz102_1 := blk_frozen BK123.out 1; have hfz102_2 := blk_frozen BK123.out 2; have hfz102_3 := blk_frozen BK123.out 3; have hfz102_4 := blk_frozen BK123.out 4; have hfz102_5 := blk_frozen BK123.out 5; have hfz102_6 := blk_frozen BK123.out 6; have hfz102_7 := blk_frozen BK123.out 7))
            go_ret2
            exact ⟨_, by first | rfl | (simp [errW_none, errW_some] <;> rfl) | (simp [*, errW_none, errW_some] <;> rfl), by (with_reducible repeat (first | apply Kd.R_alloc | apply Kd.R_drewN | apply Kd.R_drew)); exact HO130.out, by repeat (first | (with_reducible first | exact HB.out | apply below_alloc | apply pw_below_drewN | apply below_drew1 | refine below_set ?_ GE123.out) | exact HB.out)⟩
  · replace c4 := Bool.eq_false_iff.mpr c4
    subst c4
    have H1 : (some (([] : List Int), 1)) = some (r1, r2) := by rw [if_neg (show ¬ (false = true) by decide)] at H; exact H
    clear H
    have H := H1
    clear H1
    simp only [Option.some.injEq, Prod.mk.injEq] at H
    obtain ⟨rfl, rfl⟩ := H
    go_enter Try.func16, Try.ntmps16
    go_wp2_with (first | ((with_reducible refine gate_dst (N := 2) rfl ?_); refine box_event ?hg (N := 2) ?hd (cs := #[.int .i64 a0_0, .slice A0_1 l0_1.length c0_1, .slice A0_2 l0_2.length c0_2, .slice A0_3 l0_3.length c0_3, .int .i64 a0_4, .int .i64 a0_5, .int .i64 a0_6, .int .i64 a0_7]) (t := 27) ?hr ?_; (case hd => rfl); (case hg => rfl); (case hr => first | (go_simp; done) | (go_simp; rfl)); intro gb123 hg w103 hbox hb; have n0_ := Aside0.mk (below_step (by repeat (first | (with_reducible first | exact HB.out | apply below_alloc | apply pw_below_drewN | apply below_drew1) | exact HB.out)) hb); have n1_ := Aside0.mk (hbox); have n2_ := Aside0.mk ((by rw [hg]; exact (below_size (by repeat (first | (with_reducible first | exact HB.out | apply below_alloc | apply pw_below_drewN | apply below_drew1) | exact HB.out))) : w.heap.size ≤ gb123)); have n3_ := Aside0.mk ((by rw [hg]; exact (below_size (by repeat (first | (with_reducible first | exact HB.out | apply below_alloc | apply pw_below_drewN | apply below_drew1) | exact HB.out))) : w.heap.size ≤ gb123)); clear HB; have HB := n0_; have BK123 := n1_; have GW123 := n2_; have GE123 := n3_; clear n0_ n1_ n2_ n3_; clear hb hbox hg; have hcz104_0 : w103.cell? ⟨gb123, 0, none⟩ = some (.int .i64 a0_0) := (blk_cell BK123.out 0).trans rfl; have hcz104_1 : w103.cell? ⟨gb123, 1, none⟩ = some (.slice A0_1 l0_1.length c0_1) := (blk_cell BK123.out 1).trans rfl; have hcz104_2 : w103.cell? ⟨gb123, 2, none⟩ = some (.slice A0_2 l0_2.length c0_2) := (blk_cell BK123.out 2).trans rfl; have hcz104_3 : w103.cell? ⟨gb123, 3, none⟩ = some (.slice A0_3 l0_3.length c0_3) := (blk_cell BK123.out 3).trans rfl; have hcz104_4 : w103.cell? ⟨gb123, 4, none⟩ = some (.int .i64 a0_4) := (blk_cell BK123.out 4).trans rfl; have hcz104_5 : w103.cell? ⟨gb123, 5, none⟩ = some (.int .i64 a0_5) := (blk_cell BK123.out 5).trans rfl; have hcz104_6 : w103.cell? ⟨gb123, 6, none⟩ = some (.int .i64 a0_6) := (blk_cell BK123.out 6).trans rfl; have hcz104_7 : w103.cell? ⟨gb123, 7, none⟩ = some (.int .i64 a0_7) := (blk_cell BK123.out 7).trans rfl; have hfz104_0 := blk_frozen BK123.out 0; have hfz104_1 := blk_frozen BK123.out 1; have hfz104_2 := blk_frozen BK123.out 2; have hfz104_3 := blk_frozen BK123.out 3; have hfz104_4 := blk_frozen BK123.out 4; have hfz104_5 := blk_frozen BK123.out 5; have hfz104_6 := blk_frozen BK123.out 6; have hfz104_7 := blk_frozen BK123.out 7) | ((with_reducible refine gate_callee (f := 17) rfl ?_); refine goesL_ (some 12) rfl rfl Try.func17 (by kernel_rfl) rfl #[.agg #[.int .i64 a0_0, .slice A0_1 l0_1.length c0_1, .slice A0_2 l0_2.length c0_2, .slice A0_3 l0_3.length c0_3, .int .i64 a0_4, .int .i64 a0_5, .int .i64 a0_6, .int .i64 a0_7]] rfl (by (try simp only [List.map_toArray, List.map_cons, List.map_nil]); first | done | rfl | (simp only [List.length_drop, List.length_take]; rfl)) ?_; (with_reducible refine (page_Page_Right.calls k a0_0 _ _ l0_1 _ _ l0_2 _ _ l0_3 a0_4 a0_5 a0_6 a0_7 false _ ?side1 ?side2 ?side3 ?side4 ?side5 ?side6 A3.out).mono ?_); (case side1 => repeat (first | exact (Kd.C_below HR0_1.out HB.out) | (with_reducible refine Kd.C_alloc ?_ _) | (with_reducible refine Kd.C_drewN ?_ _) | (with_reducible refine Kd.C_drew ?_))); (case side2 => exact HC0_1.out); (case side3 => repeat (first | exact (Kd.C_below HR0_2.out HB.out) | (with_reducible refine Kd.C_alloc ?_ _) | (with_reducible refine Kd.C_drewN ?_ _) | (with_reducible refine Kd.C_drew ?_))); (case side4 => exact HC0_2.out); (case side5 => repeat (first | exact (Kd.C_below HR0_3.out HB.out) | (with_reducible refine Kd.C_alloc ?_ _) | (with_reducible refine Kd.C_drewN ?_ _) | (with_reducible refine Kd.C_drew ?_))); (case side6 => exact HC0_3.out); rintro e w105 ⟨rfl, hb⟩; refine ⟨_, rfl, ?_⟩; have n0_ := Aside0.mk (blk_below (g := gb123) (o := .cells #[.int .i64 a0_0, .slice A0_1 l0_1.length c0_1, .slice A0_2 l0_2.length c0_2, .slice A0_3 l0_3.length c0_3, .int .i64 a0_4, .int .i64 a0_5, .int .i64 a0_6, .int .i64 a0_7] 27 (0, 0)) (by (with_reducible repeat (first | refine blk_drewN ?_ _ | refine blk_drew ?_ | refine blk_alloc ?_ _)); exact BK123.out) hb); have n1_ := Aside0.mk (below_step (by repeat (first | (with_reducible first | exact HB.out | apply below_alloc | apply pw_below_drewN | apply below_drew1 | refine below_set ?_ GE123.out) | exact HB.out)) hb); clear BK123; clear HB; have BK123 := n0_; have HB := n1_; clear n0_ n1_; (try clear hb); (try clear hb2); (try clear hk); (try clear hi)))
    go_ret2
    exact ⟨_, by first | rfl | (simp [errW_none, errW_some] <;> rfl) | (simp [*, errW_none, errW_some] <;> rfl), by first | exact Kd.R_nil _ _ _ _ _ | exact Kd.N_nil _ _ _ _ _ | exact Kd.V_nil _ _ _ _ _ | exact Kd.Q_nil _ _ _ _ _ | exact Kd.S_nil _ _ _ _ _, by repeat (first | (with_reducible first | exact HB.out | apply below_alloc | apply pw_below_drewN | apply below_drew1 | refine below_set ?_ GE123.out) | exact HB.out)⟩

end Go.Proofs.Ytopfaeefhicljaa.Q
