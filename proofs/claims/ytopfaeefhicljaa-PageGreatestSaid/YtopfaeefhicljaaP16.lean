-- printed by a turned print (wip/mkprint.py of this repo) out of the translation; Lean checks it
import Derived.Test.YtopfaeefhicljaaP0
import Derived.Test.YtopfaeefhicljaaP3
namespace Go.Proofs.Ytopfaeefhicljaa.Q
open Go.RowKit Go.Proofs.YtopfaeefhicljaaW.PrintWords Go.Proofs.YtopfaeefhicljaaW.PrintLast Go.Proofs.YtopfaeefhicljaaW.PrintMore
attribute [local go_sem] max2_int min2_int max_two min_two max_three min_three max_four min_four   -- for this text's walks alone
set_option linter.unusedVariables false
set_option linter.unusedSimpArgs false

/-! ### page_Decode: function 23 -/
mutual
def page_Decode.j2 : Nat → List Int → Int → RdS → Int → List ByteArray → List ByteArray → List Int → Int → Int → Int → Int → Option (Int × List ByteArray × List ByteArray × List Int × Int × Int × Int × Int × Int × Int)
 | 0, _, _, _, _, _, _, _, _, _, _, _ => none
 | k + 1, x0, x7, yp, yk, yi, ys, yq, yl, ym, yn, yo => (num_Reader_Left.f yp).bind fun bt437 => (if 0 ≤ (wrap64 ((x0.length : Int) - bt437.1)) then (if (wrap64 ((x0.length : Int) - bt437.1)) ≤ (x0.length : Int) then ((num_Reader_Err.f bt437.2).bind fun bt440 => (if bt440.1 = 0 then ((page_Page_Right.f k yk yi ys yq yl ym yn yo).bind fun t442 => (if t442 = true then ((slices_ContainsFunc_byte_byte.f (x0.drop ((wrap64 ((x0.length : Int) - bt437.1)) : Int).toNat) 54).bind fun t443 => (if t443 = true then (some (0, ([] : List ByteArray), ([] : List ByteArray), ([] : List Int), 0, 0, 0, 0, 0, 11)) else (some (yk, yi, ys, yq, yl, ym, yn, yo, x7, 0)))) else (some (0, ([] : List ByteArray), ([] : List ByteArray), ([] : List Int), 0, 0, 0, 0, 0, 11)))) else (some (0, ([] : List ByteArray), ([] : List ByteArray), ([] : List Int), 0, 0, 0, 0, 0, 11)))) else (none)) else (none))
def page_Decode.l0 : Nat → List Int → Int → Int → Int → RdS → Int → List ByteArray → List ByteArray → Int → Int → Int → Int → Option (Int × List ByteArray × List ByteArray × List Int × Int × Int × Int × Int × Int × Int)
 | 0, _, _, _, _, _, _, _, _, _, _, _, _ => none
 | k + 1, x0, x7, x23, x24, yp, yk, yi, ys, yl, ym, yn, yo => if x24 < x23 then ((num_Reader_Text.f yp 24).bind fun bt400 => (if yi.length < 8796093022208 then ((num_Reader_Text.f bt400.2 48).bind fun bt405 => (if ys.length < 8796093022208 then (page_Decode.l0 k x0 x7 x23 (IntKind.u64.wrap (x24 + 1)) bt405.2 yk (yi ++ [bt400.1]) (ys ++ [bt405.1]) yl ym yn yo) else (none))) else (none))) else (page_Decode.j2 k x0 x7 yp yk yi ys ([] : List Int) yl ym yn yo)
def page_Decode.l1 : Nat → List Int → Int → Int → Int → RdS → Int → List ByteArray → List Int → Int → Int → Int → Int → Option (Int × List ByteArray × List ByteArray × List Int × Int × Int × Int × Int × Int × Int)
 | 0, _, _, _, _, _, _, _, _, _, _, _, _ => none
 | k + 1, x0, x7, x44, x45, yp, yk, yi, yq, yl, ym, yn, yo => if x45 < x44 then (if x45 > 0 then ((num_Reader_Text.f yp 24).bind fun bt412 => (if yi.length < 8796093022208 then ((num_Reader_Num.f bt412.2 65535).bind fun bt417 => (if yq.length < 17592186044416 then (page_Decode.l1 k x0 x7 x44 (IntKind.u64.wrap (x45 + 1)) bt417.2 yk (yi ++ [bt412.1]) (yq ++ [wrap64 (bt417.1)]) yl ym yn yo) else (none))) else (none))) else ((num_Reader_Num.f yp 65535).bind fun bt422 => (if yq.length < 17592186044416 then (page_Decode.l1 k x0 x7 x44 (IntKind.u64.wrap (x45 + 1)) bt422.2 yk yi (yq ++ [wrap64 (bt422.1)]) yl ym yn yo) else (none)))) else (page_Decode.j2 k x0 x7 yp yk yi ([] : List ByteArray) yq yl ym yn yo)
end
def page_Decode.f (k : Nat) (l0 : List Int) : Option (Int × List ByteArray × List ByteArray × List Int × Int × Int × Int × Int × Int × Int) := (num_Read.f l0).bind fun t391 => ((num_Reader_Num.f t391 4).bind fun bt393 => ((num_Reader_Num.f bt393.2 9223372036854775807).bind fun bt396 => (if (wrap64 (bt393.1)) = 1 then ((num_Reader_Num.f bt396.2 6).bind fun bt398 => (page_Decode.l0 k l0 bt396.1 bt398.1 0 bt398.2 (wrap64 (bt393.1)) ([] : List ByteArray) ([] : List ByteArray) 0 0 0 0)) else (if (wrap64 (bt393.1)) = 2 then ((num_Reader_Num.f bt396.2 8).bind fun bt410 => (page_Decode.l1 k l0 bt396.1 bt410.1 0 bt410.2 (wrap64 (bt393.1)) ([] : List ByteArray) ([] : List Int) 0 0 0 0)) else (if (wrap64 (bt393.1)) = 3 then ((num_Reader_Num.f bt396.2 65535).bind fun bt427 => ((num_Reader_Num.f bt427.2 65535).bind fun bt429 => ((num_Reader_Num.f bt429.2 65536).bind fun bt431 => ((num_Reader_Num.f bt431.2 65536).bind fun bt433 => (page_Decode.j2 k l0 bt396.1 bt433.2 (wrap64 (bt393.1)) ([] : List ByteArray) ([] : List ByteArray) ([] : List Int) (wrap64 (bt427.1)) (wrap64 (bt429.1)) (wrap64 (bt431.1)) (wrap64 (bt433.1))))))) else (if (wrap64 (bt393.1)) = 4 then ((num_Reader_Num.f bt396.2 65535).bind fun bt435 => (page_Decode.j2 k l0 bt396.1 bt435.2 (wrap64 (bt393.1)) ([] : List ByteArray) ([] : List ByteArray) ([] : List Int) 0 (wrap64 (bt435.1)) 0 0)) else (page_Decode.j2 k l0 bt396.1 bt396.2 (wrap64 (bt393.1)) ([] : List ByteArray) ([] : List ByteArray) ([] : List Int) 0 0 0 0)))))))
theorem page_Decode.mono_l : ∀ k, (∀ y0 y1 y2 y3 y4 y5 y6 y7 y8 y9 y10, LeO (page_Decode.j2 k y0 y1 y2 y3 y4 y5 y6 y7 y8 y9 y10) (page_Decode.j2 (k + 1) y0 y1 y2 y3 y4 y5 y6 y7 y8 y9 y10)) ∧ (∀ y0 y1 y2 y3 y4 y5 y6 y7 y8 y9 y10 y11, LeO (page_Decode.l0 k y0 y1 y2 y3 y4 y5 y6 y7 y8 y9 y10 y11) (page_Decode.l0 (k + 1) y0 y1 y2 y3 y4 y5 y6 y7 y8 y9 y10 y11)) ∧ (∀ y0 y1 y2 y3 y4 y5 y6 y7 y8 y9 y10 y11, LeO (page_Decode.l1 k y0 y1 y2 y3 y4 y5 y6 y7 y8 y9 y10 y11) (page_Decode.l1 (k + 1) y0 y1 y2 y3 y4 y5 y6 y7 y8 y9 y10 y11))
 | 0 => ⟨fun _ _ _ _ _ _ _ _ _ _ _ r h => by simp [page_Decode.j2] at h, fun _ _ _ _ _ _ _ _ _ _ _ _ r h => by simp [page_Decode.l0] at h, fun _ _ _ _ _ _ _ _ _ _ _ _ r h => by simp [page_Decode.l1] at h⟩
 | k + 1 => by
  obtain ⟨ih0, ih1, ih2⟩ := page_Decode.mono_l k
  refine ⟨?_, ?_, ?_⟩
  ·intro y0 y1 y2 y3 y4 y5 y6 y7 y8 y9 y10
   unfold page_Decode.j2
   repeat' first
   | (with_reducible exact ih0 _ _ _ _ _ _ _ _ _ _ _)
   | (with_reducible exact ih1 _ _ _ _ _ _ _ _ _ _ _ _)
   | (with_reducible exact ih2 _ _ _ _ _ _ _ _ _ _ _ _)
   | (with_reducible exact page_Page_Right.mono _ _ _ _ _ _ _ _ _)
   | (with_reducible exact LeO.refl _)
   | (with_reducible exact LeO.none _)
   | (with_reducible refine LeO.ite ?_ ?_)
   | (with_reducible refine LeO.bind ?_ (fun _ => ?_))
   | exact ih0 _ _ _ _ _ _ _ _ _ _ _
   | exact ih1 _ _ _ _ _ _ _ _ _ _ _ _
   | exact ih2 _ _ _ _ _ _ _ _ _ _ _ _
   | exact page_Page_Right.mono _ _ _ _ _ _ _ _ _
   | exact LeO.none _
   | refine LeO.ite ?_ ?_
   | refine LeO.bind ?_ (fun _ => ?_)
  ·intro y0 y1 y2 y3 y4 y5 y6 y7 y8 y9 y10 y11
   unfold page_Decode.l0
   repeat' first
   | (with_reducible exact ih0 _ _ _ _ _ _ _ _ _ _ _)
   | (with_reducible exact ih1 _ _ _ _ _ _ _ _ _ _ _ _)
   | (with_reducible exact ih2 _ _ _ _ _ _ _ _ _ _ _ _)
   | (with_reducible exact page_Page_Right.mono _ _ _ _ _ _ _ _ _)
   | (with_reducible exact LeO.refl _)
   | (with_reducible exact LeO.none _)
   | (with_reducible refine LeO.ite ?_ ?_)
   | (with_reducible refine LeO.bind ?_ (fun _ => ?_))
   | exact ih0 _ _ _ _ _ _ _ _ _ _ _
   | exact ih1 _ _ _ _ _ _ _ _ _ _ _ _
   | exact ih2 _ _ _ _ _ _ _ _ _ _ _ _
   | exact page_Page_Right.mono _ _ _ _ _ _ _ _ _
   | exact LeO.none _
   | refine LeO.ite ?_ ?_
   | refine LeO.bind ?_ (fun _ => ?_)
  ·intro y0 y1 y2 y3 y4 y5 y6 y7 y8 y9 y10 y11
   unfold page_Decode.l1
   repeat' first
   | (with_reducible exact ih0 _ _ _ _ _ _ _ _ _ _ _)
   | (with_reducible exact ih1 _ _ _ _ _ _ _ _ _ _ _ _)
   | (with_reducible exact ih2 _ _ _ _ _ _ _ _ _ _ _ _)
   | (with_reducible exact page_Page_Right.mono _ _ _ _ _ _ _ _ _)
   | (with_reducible exact LeO.refl _)
   | (with_reducible exact LeO.none _)
   | (with_reducible refine LeO.ite ?_ ?_)
   | (with_reducible refine LeO.bind ?_ (fun _ => ?_))
   | exact ih0 _ _ _ _ _ _ _ _ _ _ _
   | exact ih1 _ _ _ _ _ _ _ _ _ _ _ _
   | exact ih2 _ _ _ _ _ _ _ _ _ _ _ _
   | exact page_Page_Right.mono _ _ _ _ _ _ _ _ _
   | exact LeO.none _
   | refine LeO.ite ?_ ?_
   | refine LeO.bind ?_ (fun _ => ?_)
theorem page_Decode.mono : ∀ a0 k, LeO (page_Decode.f k a0) (page_Decode.f (k + 1) a0) := by
 intro a0 k
 obtain ⟨ih0, ih1, ih2⟩ := page_Decode.mono_l k
 unfold page_Decode.f
 repeat' first
   | (with_reducible exact ih0 _ _ _ _ _ _ _ _ _ _ _)
   | (with_reducible exact ih1 _ _ _ _ _ _ _ _ _ _ _ _)
   | (with_reducible exact ih2 _ _ _ _ _ _ _ _ _ _ _ _)
   | (with_reducible exact page_Page_Right.mono _ _ _ _ _ _ _ _ _)
   | (with_reducible exact LeO.refl _)
   | (with_reducible exact LeO.none _)
   | (with_reducible refine LeO.ite ?_ ?_)
   | (with_reducible refine LeO.bind ?_ (fun _ => ?_))
   | exact ih0 _ _ _ _ _ _ _ _ _ _ _
   | exact ih1 _ _ _ _ _ _ _ _ _ _ _ _
   | exact ih2 _ _ _ _ _ _ _ _ _ _ _ _
   | exact page_Page_Right.mono _ _ _ _ _ _ _ _ _
   | exact LeO.none _
   | refine LeO.ite ?_ ?_
   | refine LeO.bind ?_ (fun _ => ?_)
def page_Decode.T8 : Bool × List (List Nat × List Nat) := (true, [([], []), ([0], [0]), ([], []), ([2], [2]), ([3], [3]), ([1, 4, 3], [1, 4]), ([0, 1, 2, 3, 4, 5], []), ([6, 5, 5, 0, 1, 2, 3, 4, 5], [5, 6])])
def page_Decode.B8 : List Nat := [0, 1, 0, 4, 12, 31, 63, 127]
theorem page_Decode.tab8 : rtab .any (opsOf Try.f23 8) = page_Decode.T8 := by kernel_rfl
theorem page_Decode.bits8 : waitsOk page_Decode.T8.2 page_Decode.B8 = true := by kernel_rfl
def page_Decode.T9 : Bool × List (List Nat × List Nat) := (true, [([], []), ([0], [0]), ([], []), ([2], [2]), ([3], [3]), ([1, 4, 3], [1, 4]), ([0, 1, 2, 3, 4, 5], []), ([6, 5, 5, 0, 1, 2, 3, 4, 5], [5, 6])])
def page_Decode.B9 : List Nat := [0, 1, 0, 4, 12, 31, 63, 127]
theorem page_Decode.tab9 : rtab .any (opsOf Try.f23 9) = page_Decode.T9 := by kernel_rfl
theorem page_Decode.bits9 : waitsOk page_Decode.T9.2 page_Decode.B9 = true := by kernel_rfl
def page_Decode.T16 : Bool × List (List Nat × List Nat) := (true, [([], []), ([0], [0]), ([], []), ([2], [2]), ([3], [3]), ([1, 4, 3], [1, 4]), ([0, 1, 2, 3, 4, 5], []), ([6, 5, 5, 0, 1, 2, 3, 4, 5], [5, 6])])
def page_Decode.B16 : List Nat := [0, 1, 0, 4, 12, 31, 63, 127]
theorem page_Decode.tab16 : rtab .any (opsOf Try.f23 16) = page_Decode.T16 := by kernel_rfl
theorem page_Decode.bits16 : waitsOk page_Decode.T16.2 page_Decode.B16 = true := by kernel_rfl
def page_Decode.T17 : Bool × List (List Nat × List Nat) := (true, [([], []), ([0], [0]), ([], []), ([2], [2]), ([3], [3]), ([4], [4]), ([1, 5, 3], [1, 5]), ([0, 1, 2, 3, 4, 5, 6], []), ([7, 6, 6, 0, 1, 2, 3, 4, 5, 6], [6, 7])])
def page_Decode.B17 : List Nat := [0, 1, 0, 4, 12, 28, 63, 127, 255]
theorem page_Decode.tab17 : rtab .any (opsOf Try.f23 17) = page_Decode.T17 := by kernel_rfl
theorem page_Decode.bits17 : waitsOk page_Decode.T17.2 page_Decode.B17 = true := by kernel_rfl
set_option maxHeartbeats 8000000 in
set_option maxRecDepth 100000 in
theorem page_Decode.calls (k : Nat) (A0 : Option Addr) (c0 : Nat) (l0 : List Int) (r1 : Int) (r2 : List ByteArray) (r3 : List ByteArray) (r4 : List Int) (r5 : Int) (r6 : Int) (r7 : Int) (r8 : Int) (r9 : Int) (r10 : Int) (w : World) (hr0 : Kd.C (Kd.int .u8) w A0 l0.length l0) (hc0 : l0.length ≤ c0) (h : page_Decode.f k l0 = some (r1, r2, r3, r4, r5, r6, r7, r8, r9, r10)) :
  Calls Try.prog 23 #[.slice A0 l0.length c0] w fun e w' => ∃ v1_ v2_ v3_ : Value, e = .returned (.tuple #[.agg #[.int .i64 r1, v1_, v2_, v3_, .int .i64 r5, .int .i64 r6, .int .i64 r7, .int .i64 r8], .int .u64 r9, .int .i64 r10]) ∧ Kd.R Kd.string 9 w' w.heap.size (fun k_ => some k_ ≠ (v2_ : Value).ownBlock) v1_ r2 ∧ Kd.R Kd.string 9 w' w.heap.size (fun k_ => some k_ ≠ (v1_ : Value).ownBlock) v2_ r3 ∧ Kd.R (Kd.int .i64) 3 w' w.heap.size (fun _ => True) v3_ r4 ∧ Below w.heap.size w w' := by
 have hu27 := Try.underlying27
 have HR0 := Aside0.mk hr0
 have HC0 := Aside0.mk hc0
 clear hr0 hc0
 have HB := Aside0.mk (Below.refl w.heap.size w)
 have H : ((num_Read.f l0).bind fun t391 => ((num_Reader_Num.f t391 4).bind fun bt393 => ((num_Reader_Num.f bt393.2 9223372036854775807).bind fun bt396 => (if (wrap64 (bt393.1)) = 1 then ((num_Reader_Num.f bt396.2 6).bind fun bt398 => (page_Decode.l0 k l0 bt396.1 bt398.1 0 bt398.2 (wrap64 (bt393.1)) ([] : List ByteArray) ([] : List ByteArray) 0 0 0 0)) else (if (wrap64 (bt393.1)) = 2 then ((num_Reader_Num.f bt396.2 8).bind fun bt410 => (page_Decode.l1 k l0 bt396.1 bt410.1 0 bt410.2 (wrap64 (bt393.1)) ([] : List ByteArray) ([] : List Int) 0 0 0 0)) else (if (wrap64 (bt393.1)) = 3 then ((num_Reader_Num.f bt396.2 65535).bind fun bt427 => ((num_Reader_Num.f bt427.2 65535).bind fun bt429 => ((num_Reader_Num.f bt429.2 65536).bind fun bt431 => ((num_Reader_Num.f bt431.2 65536).bind fun bt433 => (page_Decode.j2 k l0 bt396.1 bt433.2 (wrap64 (bt393.1)) ([] : List ByteArray) ([] : List ByteArray) ([] : List Int) (wrap64 (bt427.1)) (wrap64 (bt429.1)) (wrap64 (bt431.1)) (wrap64 (bt433.1))))))) else (if (wrap64 (bt393.1)) = 4 then ((num_Reader_Num.f bt396.2 65535).bind fun bt435 => (page_Decode.j2 k l0 bt396.1 bt435.2 (wrap64 (bt393.1)) ([] : List ByteArray) ([] : List ByteArray) ([] : List Int) 0 (wrap64 (bt435.1)) 0 0)) else (page_Decode.j2 k l0 bt396.1 bt396.2 (wrap64 (bt393.1)) ([] : List ByteArray) ([] : List ByteArray) ([] : List Int) 0 0 0 0)))))))) = some (r1, r2, r3, r4, r5, r6, r7, r8, r9, r10) := h
 clear h
 replace H := Option.bind_eq_some_iff.mp H
 obtain ⟨t391, A20, H⟩ := H
 replace H : ((num_Reader_Num.f t391 4).bind fun bt393 => ((num_Reader_Num.f bt393.2 9223372036854775807).bind fun bt396 => (if (wrap64 (bt393.1)) = 1 then ((num_Reader_Num.f bt396.2 6).bind fun bt398 => (page_Decode.l0 k l0 bt396.1 bt398.1 0 bt398.2 (wrap64 (bt393.1)) ([] : List ByteArray) ([] : List ByteArray) 0 0 0 0)) else (if (wrap64 (bt393.1)) = 2 then ((num_Reader_Num.f bt396.2 8).bind fun bt410 => (page_Decode.l1 k l0 bt396.1 bt410.1 0 bt410.2 (wrap64 (bt393.1)) ([] : List ByteArray) ([] : List Int) 0 0 0 0)) else (if (wrap64 (bt393.1)) = 3 then ((num_Reader_Num.f bt396.2 65535).bind fun bt427 => ((num_Reader_Num.f bt427.2 65535).bind fun bt429 => ((num_Reader_Num.f bt429.2 65536).bind fun bt431 => ((num_Reader_Num.f bt431.2 65536).bind fun bt433 => (page_Decode.j2 k l0 bt396.1 bt433.2 (wrap64 (bt393.1)) ([] : List ByteArray) ([] : List ByteArray) ([] : List Int) (wrap64 (bt427.1)) (wrap64 (bt429.1)) (wrap64 (bt431.1)) (wrap64 (bt433.1))))))) else (if (wrap64 (bt393.1)) = 4 then ((num_Reader_Num.f bt396.2 65535).bind fun bt435 => (page_Decode.j2 k l0 bt396.1 bt435.2 (wrap64 (bt393.1)) ([] : List ByteArray) ([] : List ByteArray) ([] : List Int) 0 (wrap64 (bt435.1)) 0 0)) else (page_Decode.j2 k l0 bt396.1 bt396.2 (wrap64 (bt393.1)) ([] : List ByteArray) ([] : List ByteArray) ([] : List Int) 0 0 0 0))))))) = some (r1, r2, r3, r4, r5, r6, r7, r8, r9, r10) := H
 have A2 := Aside0.mk A20
 clear A20
 replace H := Option.bind_eq_some_iff.mp H
 obtain ⟨⟨t393, t394⟩, A30, H⟩ := H
 replace H : ((num_Reader_Num.f t394 9223372036854775807).bind fun bt396 => (if (wrap64 (t393)) = 1 then ((num_Reader_Num.f bt396.2 6).bind fun bt398 => (page_Decode.l0 k l0 bt396.1 bt398.1 0 bt398.2 (wrap64 (t393)) ([] : List ByteArray) ([] : List ByteArray) 0 0 0 0)) else (if (wrap64 (t393)) = 2 then ((num_Reader_Num.f bt396.2 8).bind fun bt410 => (page_Decode.l1 k l0 bt396.1 bt410.1 0 bt410.2 (wrap64 (t393)) ([] : List ByteArray) ([] : List Int) 0 0 0 0)) else (if (wrap64 (t393)) = 3 then ((num_Reader_Num.f bt396.2 65535).bind fun bt427 => ((num_Reader_Num.f bt427.2 65535).bind fun bt429 => ((num_Reader_Num.f bt429.2 65536).bind fun bt431 => ((num_Reader_Num.f bt431.2 65536).bind fun bt433 => (page_Decode.j2 k l0 bt396.1 bt433.2 (wrap64 (t393)) ([] : List ByteArray) ([] : List ByteArray) ([] : List Int) (wrap64 (bt427.1)) (wrap64 (bt429.1)) (wrap64 (bt431.1)) (wrap64 (bt433.1))))))) else (if (wrap64 (t393)) = 4 then ((num_Reader_Num.f bt396.2 65535).bind fun bt435 => (page_Decode.j2 k l0 bt396.1 bt435.2 (wrap64 (t393)) ([] : List ByteArray) ([] : List ByteArray) ([] : List Int) 0 (wrap64 (bt435.1)) 0 0)) else (page_Decode.j2 k l0 bt396.1 bt396.2 (wrap64 (t393)) ([] : List ByteArray) ([] : List ByteArray) ([] : List Int) 0 0 0 0)))))) = some (r1, r2, r3, r4, r5, r6, r7, r8, r9, r10) := H
 have A3 := Aside0.mk A30
 clear A30
 replace H := Option.bind_eq_some_iff.mp H
 obtain ⟨⟨t396, t397⟩, A40, H⟩ := H
 replace H : (if (wrap64 (t393)) = 1 then ((num_Reader_Num.f t397 6).bind fun bt398 => (page_Decode.l0 k l0 t396 bt398.1 0 bt398.2 (wrap64 (t393)) ([] : List ByteArray) ([] : List ByteArray) 0 0 0 0)) else (if (wrap64 (t393)) = 2 then ((num_Reader_Num.f t397 8).bind fun bt410 => (page_Decode.l1 k l0 t396 bt410.1 0 bt410.2 (wrap64 (t393)) ([] : List ByteArray) ([] : List Int) 0 0 0 0)) else (if (wrap64 (t393)) = 3 then ((num_Reader_Num.f t397 65535).bind fun bt427 => ((num_Reader_Num.f bt427.2 65535).bind fun bt429 => ((num_Reader_Num.f bt429.2 65536).bind fun bt431 => ((num_Reader_Num.f bt431.2 65536).bind fun bt433 => (page_Decode.j2 k l0 t396 bt433.2 (wrap64 (t393)) ([] : List ByteArray) ([] : List ByteArray) ([] : List Int) (wrap64 (bt427.1)) (wrap64 (bt429.1)) (wrap64 (bt431.1)) (wrap64 (bt433.1))))))) else (if (wrap64 (t393)) = 4 then ((num_Reader_Num.f t397 65535).bind fun bt435 => (page_Decode.j2 k l0 t396 bt435.2 (wrap64 (t393)) ([] : List ByteArray) ([] : List ByteArray) ([] : List Int) 0 (wrap64 (bt435.1)) 0 0)) else (page_Decode.j2 k l0 t396 t397 (wrap64 (t393)) ([] : List ByteArray) ([] : List ByteArray) ([] : List Int) 0 0 0 0))))) = some (r1, r2, r3, r4, r5, r6, r7, r8, r9, r10) := H
 have A4 := Aside0.mk A40
 clear A40
 have HC5 := Aside0.mk H
 clear H
 go_enter Try.func23, Try.ntmps23
 go_upto_block 0 with (first | ((with_reducible refine gate_dst (N := 2) rfl ?_); refine box_event ?hg (N := 2) ?hd (cs := #[.int .i64 0, .slice none 0 0, .slice none 0 0, .slice none 0 0, .int .i64 0, .int .i64 0, .int .i64 0, .int .i64 0]) (t := 27) ?hr ?_; (case hd => rfl); (case hg => rfl); (case hr => first | (go_simp; done) | (go_simp; rfl)); intro zj hg w6 hbox hb; have n0_ := Aside0.mk (below_step (by repeat (first | (with_reducible first | exact HB.out | apply wA | apply wN | apply wD) | exact HB.out)) hb); have n1_ := Aside0.mk (hbox); have n2_ := Aside0.mk ((by rw [hg]; exact (below_size (by repeat (first | (with_reducible first | exact HB.out | apply wA | apply wN | apply wD) | exact HB.out))) : w.heap.size ≤ zj)); have n3_ := Aside0.mk ((by rw [hg]; exact (below_size (by repeat (first | (with_reducible first | exact HB.out | apply wA | apply wN | apply wD) | exact HB.out))) : w.heap.size ≤ zj)); clear HB; have HB := n0_; have zc := n1_; have zf1 := n2_; have zs := n3_; clear n0_ n1_ n2_ n3_; clear hb hbox hg) | ((with_reducible refine gate_callee (f := 48) rfl ?_); refine goesL_ (some 11) rfl rfl Try.func48 (by kernel_rfl) rfl #[.slice A0 l0.length c0] rfl (by (try simp only [List.map_toArray, List.map_cons, List.map_nil]); first | done | rfl | (simp only [List.length_drop, List.length_take]; rfl)) ?_; (with_reducible refine (num_Read.calls _ _ l0 t391 w _ ?side1 ?side2 ?side3 A2.out).mono ?_); (case side1 => repeat (first | (with_reducible first | exact HB.out | apply wA | apply wN | apply wD | refine wS ?_ zs.out) | exact HB.out)); (case side2 => exact HR0.out); (case side3 => exact HC0.out); rintro e w7 ⟨g392, rfl, hi, hb, hb2⟩; refine ⟨_, rfl, ?_⟩; have n0_ := Aside0.mk (blk_below (g := zj) (o := .cells #[.int .i64 0, .slice none 0 0, .slice none 0 0, .slice none 0 0, .int .i64 0, .int .i64 0, .int .i64 0, .int .i64 0] 27 (0, 0)) (by (with_reducible repeat (first | refine bN ?_ _ | refine bD ?_ | refine bA ?_ _)); exact zc.out) hb2); have n1_ := Aside0.mk (hb); have n2_ := Aside0.mk (hi); have n3_ := Aside0.mk (IsS103.ne_blk hi (blk_below (g := zj) (o := .cells #[.int .i64 0, .slice none 0 0, .slice none 0 0, .slice none 0 0, .int .i64 0, .int .i64 0, .int .i64 0, .int .i64 0] 27 (0, 0)) (by (with_reducible repeat (first | refine bN ?_ _ | refine bD ?_ | refine bA ?_ _)); exact zc.out) hb2) (by decide)); have n4_ := Aside0.mk (Ne.symm (IsS103.ne_blk hi (blk_below (g := zj) (o := .cells #[.int .i64 0, .slice none 0 0, .slice none 0 0, .slice none 0 0, .int .i64 0, .int .i64 0, .int .i64 0, .int .i64 0] 27 (0, 0)) (by (with_reducible repeat (first | refine bN ?_ _ | refine bD ?_ | refine bA ?_ _)); exact zc.out) hb2) (by decide))); clear zc; clear HB; have zc := n0_; have HB := n1_; have zb := n2_; have zg := n3_; have zy := n4_; clear n0_ n1_ n2_ n3_ n4_; (try clear hb); (try clear hb2); (try clear hk); (try clear hi)) | ((with_reducible refine gate_callee (f := 49) rfl ?_); refine goesL_ (some 13) rfl rfl Try.func49 (by kernel_rfl) rfl #[.pointer (some ⟨g392, 0, none⟩), .int .u64 4] rfl (by (try simp only [List.map_toArray, List.map_cons, List.map_nil]); first | done | rfl | (simp only [List.length_drop, List.length_take]; rfl)) ?_; (with_reducible refine (num_Reader_Num.calls g392 t391 4 t393 t394 w _ ?side1 ?side2 A3.out).mono ?_); (case side1 => repeat (first | (with_reducible first | exact zb.out | apply IsS103.alloc | apply IsS103.drewN | apply IsS103.drew | apply IsS103.set_0 | refine IsS103.far ?_ zg.out _) | exact zb.out)); (case side2 => repeat (first | (with_reducible first | exact HB.out | apply wA | apply wN | apply wD | refine wS ?_ (IsS103.ge zb.out) | refine wS ?_ zs.out) | exact HB.out)); rintro e w8 ⟨rfl, hi, hb, hk⟩; refine ⟨_, rfl, ?_⟩; have n0_ := Aside0.mk (KeepBut.blk hk (g' := zj) (o := .cells #[.int .i64 0, .slice none 0 0, .slice none 0 0, .slice none 0 0, .int .i64 0, .int .i64 0, .int .i64 0, .int .i64 0] 27 (0, 0)) (by (with_reducible repeat (first | refine bN ?_ _ | refine bD ?_ | refine bA ?_ _)); exact zc.out) zy.out (by simp)); have n1_ := Aside0.mk (hb); have n2_ := Aside0.mk (hi); clear zc; clear HB; clear zb; have zc := n0_; have HB := n1_; have zb := n2_; clear n0_ n1_ n2_; (try clear hb); (try clear hb2); (try clear hk); (try clear hi)) | ((with_reducible refine gate_dst (N := 6) rfl ?_); refine box_event ?hg (N := 6) ?hd (cs := #[.int .i64 0, .slice none 0 0, .slice none 0 0, .slice none 0 0, .int .i64 0, .int .i64 0, .int .i64 0, .int .i64 0]) (t := 27) ?hr ?_; (case hd => rfl); (case hg => rfl); (case hr => first | (go_simp; done) | (go_simp; rfl)); intro zd hg w9 hbox hb; have n0_ := Aside0.mk (blk_below (g := zj) (o := .cells #[.int .i64 0, .slice none 0 0, .slice none 0 0, .slice none 0 0, .int .i64 0, .int .i64 0, .int .i64 0, .int .i64 0] 27 (0, 0)) (by (with_reducible repeat (first | refine bN ?_ _ | refine bD ?_ | refine bA ?_ _)); exact zc.out) hb); have n1_ := Aside0.mk (IsS103.below (by repeat (first | (with_reducible first | exact zb.out | apply IsS103.alloc | apply IsS103.drewN | apply IsS103.drew | apply IsS103.set_0 | refine IsS103.far ?_ zg.out _) | exact zb.out)) hb); have n2_ := Aside0.mk (below_step (by repeat (first | (with_reducible first | exact HB.out | apply wA | apply wN | apply wD | refine wS ?_ (IsS103.ge zb.out) | refine wS ?_ zs.out) | exact HB.out)) hb); have n3_ := Aside0.mk (hbox); have n4_ := Aside0.mk ((by rw [hg]; exact (below_size (by repeat (first | (with_reducible first | exact HB.out | apply wA | apply wN | apply wD | refine wS ?_ (IsS103.ge zb.out) | refine wS ?_ zs.out) | exact HB.out))) : w.heap.size ≤ zd)); have n5_ := Aside0.mk ((by rw [hg]; exact (below_size (by repeat (first | (with_reducible first | exact HB.out | apply wA | apply wN | apply wD | refine wS ?_ (IsS103.ge zb.out) | refine wS ?_ zs.out) | exact HB.out))) : w.heap.size ≤ zd)); have n6_ := Aside0.mk ((by rw [hg]; exact Nat.ne_of_lt (blk_lt (g := zj) (o := .cells #[.int .i64 0, .slice none 0 0, .slice none 0 0, .slice none 0 0, .int .i64 0, .int .i64 0, .int .i64 0, .int .i64 0] 27 (0, 0)) (by (with_reducible repeat (first | refine bN ?_ _ | refine bD ?_ | refine bA ?_ _)); exact zc.out)) : zj ≠ zd)); have n7_ := Aside0.mk ((by rw [hg]; exact Nat.ne_of_gt (blk_lt (g := zj) (o := .cells #[.int .i64 0, .slice none 0 0, .slice none 0 0, .slice none 0 0, .int .i64 0, .int .i64 0, .int .i64 0, .int .i64 0] 27 (0, 0)) (by (with_reducible repeat (first | refine bN ?_ _ | refine bD ?_ | refine bA ?_ _)); exact zc.out)) : zd ≠ zj)); have n8_ := Aside0.mk ((by rw [hg]; exact Nat.ne_of_lt (IsS103.lt (show IsS103 w _ g392 t394 from by repeat (first | (with_reducible first | exact zb.out | apply IsS103.alloc | apply IsS103.drewN | apply IsS103.drew | apply IsS103.set_0 | refine IsS103.far ?_ zg.out _) | exact zb.out))) : g392 ≠ zd)); have n9_ := Aside0.mk ((by rw [hg]; exact Nat.ne_of_gt (IsS103.lt (show IsS103 w _ g392 t394 from by repeat (first | (with_reducible first | exact zb.out | apply IsS103.alloc | apply IsS103.drewN | apply IsS103.drew | apply IsS103.set_0 | refine IsS103.far ?_ zg.out _) | exact zb.out))) : zd ≠ g392)); clear zc; clear zb; clear HB; have zc := n0_; have zb := n1_; have HB := n2_; have za := n3_; have zf2 := n4_; have zv := n5_; have zt := n6_; have ye := n7_; have zh := n8_; have zw := n9_; clear n0_ n1_ n2_ n3_ n4_ n5_ n6_ n7_ n8_ n9_; clear hb hbox hg; have hnb10 := ye.out; have hnc10 := zt.out; have hnb11 := zw.out; have hnc11 := zh.out; have jb : w9.cell? ⟨zd, 0, none⟩ = some (.int .i64 0) := (blk_cell za.out 0).trans rfl; have jc : w9.cell? ⟨zd, 1, none⟩ = some (.slice none 0 0) := (blk_cell za.out 1).trans rfl; have jd : w9.cell? ⟨zd, 2, none⟩ = some (.slice none 0 0) := (blk_cell za.out 2).trans rfl; have je : w9.cell? ⟨zd, 3, none⟩ = some (.slice none 0 0) := (blk_cell za.out 3).trans rfl; have jf : w9.cell? ⟨zd, 4, none⟩ = some (.int .i64 0) := (blk_cell za.out 4).trans rfl; have jg : w9.cell? ⟨zd, 5, none⟩ = some (.int .i64 0) := (blk_cell za.out 5).trans rfl; have jh : w9.cell? ⟨zd, 6, none⟩ = some (.int .i64 0) := (blk_cell za.out 6).trans rfl; have ji : w9.cell? ⟨zd, 7, none⟩ = some (.int .i64 0) := (blk_cell za.out 7).trans rfl; have jj := blk_frozen za.out 0; have jk := blk_frozen za.out 1; have jl := blk_frozen za.out 2; have jm := blk_frozen za.out 3; have jn := blk_frozen za.out 4; have jo := blk_frozen za.out 5; have jp := blk_frozen za.out 6; have jq := blk_frozen za.out 7) | ((with_reducible refine gate_callee (f := 49) rfl ?_); refine goesL_ (some 17) rfl rfl Try.func49 (by kernel_rfl) rfl #[.pointer (some ⟨g392, 0, none⟩), .int .u64 9223372036854775807] rfl (by (try simp only [List.map_toArray, List.map_cons, List.map_nil]); first | done | rfl | (simp only [List.length_drop, List.length_take]; rfl)) ?_; (with_reducible refine (num_Reader_Num.calls g392 t394 9223372036854775807 t396 t397 w _ ?side1 ?side2 A4.out).mono ?_); (case side1 => repeat (first | (with_reducible first | exact zb.out | apply IsS103.alloc | apply IsS103.drewN | apply IsS103.drew | apply IsS103.set_0 | refine IsS103.far ?_ zg.out _ | refine IsS103.far ?_ zh.out _) | exact zb.out)); (case side2 => repeat (first | (with_reducible first | exact HB.out | apply wA | apply wN | apply wD | refine wS ?_ (IsS103.ge zb.out) | refine wS ?_ zs.out | refine wS ?_ zv.out) | exact HB.out)); rintro e w13 ⟨rfl, hi, hb, hk⟩; refine ⟨_, rfl, ?_⟩; have n0_ := Aside0.mk (KeepBut.blk hk (g' := zj) (o := .cells #[.int .i64 0, .slice none 0 0, .slice none 0 0, .slice none 0 0, .int .i64 0, .int .i64 0, .int .i64 0, .int .i64 0] 27 (0, 0)) (by (with_reducible repeat (first | refine bN ?_ _ | refine bD ?_ | refine bA ?_ _)); refine blk_far ?_ zt.out _; (with_reducible repeat (first | refine bN ?_ _ | refine bD ?_ | refine bA ?_ _)); refine blk_far ?_ zt.out _; (with_reducible repeat (first | refine bN ?_ _ | refine bD ?_ | refine bA ?_ _)); refine blk_far ?_ zt.out _; (with_reducible repeat (first | refine bN ?_ _ | refine bD ?_ | refine bA ?_ _)); refine blk_far ?_ zt.out _; (with_reducible repeat (first | refine bN ?_ _ | refine bD ?_ | refine bA ?_ _)); refine blk_far ?_ zt.out _; (with_reducible repeat (first | refine bN ?_ _ | refine bD ?_ | refine bA ?_ _)); refine blk_far ?_ zt.out _; (with_reducible repeat (first | refine bN ?_ _ | refine bD ?_ | refine bA ?_ _)); refine blk_far ?_ zt.out _; (with_reducible repeat (first | refine bN ?_ _ | refine bD ?_ | refine bA ?_ _)); refine blk_far ?_ zt.out _; (with_reducible repeat (first | refine bN ?_ _ | refine bD ?_ | refine bA ?_ _)); exact zc.out) zy.out (by simp)); have n1_ := Aside0.mk (KeepBut.blk hk (g' := zd) (o := .cells #[.int .i64 (wrap64 (t393)), .slice none 0 0, .slice none 0 0, .slice none 0 0, .int .i64 0, .int .i64 0, .int .i64 0, .int .i64 0] 27 (0, 0)) (by (with_reducible repeat (first | refine bN ?_ _ | refine bD ?_ | refine bA ?_ _)); refine blk_put (cs := #[.int .i64 (wrap64 (t393)), .slice none 0 0, .slice none 0 0, .slice none 0 0, .int .i64 0, .int .i64 0, .int .i64 0, .int .i64 0]) ?_ 7 _ rfl; (with_reducible repeat (first | refine bN ?_ _ | refine bD ?_ | refine bA ?_ _)); refine blk_put (cs := #[.int .i64 (wrap64 (t393)), .slice none 0 0, .slice none 0 0, .slice none 0 0, .int .i64 0, .int .i64 0, .int .i64 0, .int .i64 0]) ?_ 6 _ rfl; (with_reducible repeat (first | refine bN ?_ _ | refine bD ?_ | refine bA ?_ _)); refine blk_put (cs := #[.int .i64 (wrap64 (t393)), .slice none 0 0, .slice none 0 0, .slice none 0 0, .int .i64 0, .int .i64 0, .int .i64 0, .int .i64 0]) ?_ 5 _ rfl; (with_reducible repeat (first | refine bN ?_ _ | refine bD ?_ | refine bA ?_ _)); refine blk_put (cs := #[.int .i64 (wrap64 (t393)), .slice none 0 0, .slice none 0 0, .slice none 0 0, .int .i64 0, .int .i64 0, .int .i64 0, .int .i64 0]) ?_ 4 _ rfl; (with_reducible repeat (first | refine bN ?_ _ | refine bD ?_ | refine bA ?_ _)); refine blk_put (cs := #[.int .i64 (wrap64 (t393)), .slice none 0 0, .slice none 0 0, .slice none 0 0, .int .i64 0, .int .i64 0, .int .i64 0, .int .i64 0]) ?_ 3 _ rfl; (with_reducible repeat (first | refine bN ?_ _ | refine bD ?_ | refine bA ?_ _)); refine blk_put (cs := #[.int .i64 (wrap64 (t393)), .slice none 0 0, .slice none 0 0, .slice none 0 0, .int .i64 0, .int .i64 0, .int .i64 0, .int .i64 0]) ?_ 2 _ rfl; (with_reducible repeat (first | refine bN ?_ _ | refine bD ?_ | refine bA ?_ _)); refine blk_put (cs := #[.int .i64 (wrap64 (t393)), .slice none 0 0, .slice none 0 0, .slice none 0 0, .int .i64 0, .int .i64 0, .int .i64 0, .int .i64 0]) ?_ 1 _ rfl; (with_reducible repeat (first | refine bN ?_ _ | refine bD ?_ | refine bA ?_ _)); refine blk_put (cs := #[.int .i64 0, .slice none 0 0, .slice none 0 0, .slice none 0 0, .int .i64 0, .int .i64 0, .int .i64 0, .int .i64 0]) ?_ 0 _ rfl; (with_reducible repeat (first | refine bN ?_ _ | refine bD ?_ | refine bA ?_ _)); exact za.out) zw.out (by simp)); have n2_ := Aside0.mk (hb); have n3_ := Aside0.mk (hi); clear zc; clear za; clear HB; clear zb; have zc := n0_; have za := n1_; have HB := n2_; have zb := n3_; clear n0_ n1_ n2_ n3_; (try clear hb); (try clear hb2); (try clear hk); (try clear hi); have jr : w13.cell? ⟨zd, 0, none⟩ = some (.int .i64 (wrap64 (t393))) := (blk_cell za.out 0).trans rfl; have js : w13.cell? ⟨zd, 1, none⟩ = some (.slice none 0 0) := (blk_cell za.out 1).trans rfl; have jt : w13.cell? ⟨zd, 2, none⟩ = some (.slice none 0 0) := (blk_cell za.out 2).trans rfl; have ju : w13.cell? ⟨zd, 3, none⟩ = some (.slice none 0 0) := (blk_cell za.out 3).trans rfl; have jv : w13.cell? ⟨zd, 4, none⟩ = some (.int .i64 0) := (blk_cell za.out 4).trans rfl; have jw : w13.cell? ⟨zd, 5, none⟩ = some (.int .i64 0) := (blk_cell za.out 5).trans rfl; have jx : w13.cell? ⟨zd, 6, none⟩ = some (.int .i64 0) := (blk_cell za.out 6).trans rfl; have jy : w13.cell? ⟨zd, 7, none⟩ = some (.int .i64 0) := (blk_cell za.out 7).trans rfl; have jz := blk_frozen za.out 0; have zaa := blk_frozen za.out 1; have zab := blk_frozen za.out 2; have zac := blk_frozen za.out 3; have zad := blk_frozen za.out 4; have zae := blk_frozen za.out 5; have zaf := blk_frozen za.out 6; have zag := blk_frozen za.out 7))
 (try simp only [Act.put, List.setIfInBounds_toArray, List.set_cons_zero, List.set_cons_succ])
 go_cut [] (fun wc => ∃ (kq : Nat) (ya : RdS) (zm : List ByteArray) (zo : List ByteArray) (zq : List Int) (zk : Int) (zl : Int) (zn : Int) (zp : Int) (zr : Value) (zx : Value) (zu : Value), Aside0 (page_Decode.j2 kq l0 t396 ya (wrap64 (t393)) zm zo zq zk zl zn zp = some (r1, r2, r3, r4, r5, r6, r7, r8, r9, r10)) ∧ Aside0 (kq ≤ k) ∧ Aside0 (Kd.R Kd.string 9 wc w.heap.size (fun k_ => some k_ ≠ (zx : Value).ownBlock) zr zm) ∧ Aside0 (Kd.R Kd.string 9 wc w.heap.size (fun k_ => some k_ ≠ (zr : Value).ownBlock) zx zo) ∧ Aside0 (Kd.R (Kd.int .i64) 3 wc w.heap.size (fun _ => True) zu zq) ∧ Aside0 (wc.heap[zj]? = some (.cells #[.int .i64 0, (.slice none 0 0), (.slice none 0 0), (.slice none 0 0), .int .i64 0, .int .i64 0, .int .i64 0, .int .i64 0] 27 (0, 0))) ∧ Aside0 (wc.heap[zd]? = some (.cells #[.int .i64 (wrap64 (t393)), zr, zx, zu, .int .i64 zk, .int .i64 zl, .int .i64 zn, .int .i64 zp] 27 (0, 0))) ∧ Aside0 (IsS103 w wc g392 ya) ∧ Aside0 (Below w.heap.size w wc))
 case first =>
  have H := HC5.out
  clear HC5
  by_cases c15 : (wrap64 (t393)) = 1
  ·rw [if_pos c15] at H
   have c15b0 : ((wrap64 (t393)) == 1) = true := beq_iff_eq.mpr c15
   have c15b1 : ((wrap64 (t393)) != 1) = false := bne_eq_false_iff_eq.mpr c15
   clear c15
   (first | rw [c15b0] | (simp only [i64_w, i32_w]; rw [c15b0]) | skip)
   replace H := Option.bind_eq_some_iff.mp H
   obtain ⟨⟨t398, t399⟩, A160, H⟩ := H
   replace H : (page_Decode.l0 k l0 t396 t398 0 t399 (wrap64 (t393)) ([] : List ByteArray) ([] : List ByteArray) 0 0 0 0) = some (r1, r2, r3, r4, r5, r6, r7, r8, r9, r10) := H
   have A16 := Aside0.mk A160
   clear A160
   have H' := Aside0.mk H
   clear H
   go_wp2_with (first | ((with_reducible refine gate_callee (f := 49) rfl ?_); refine goesL_ (some 23) rfl rfl Try.func49 (by kernel_rfl) rfl #[.pointer (some ⟨g392, 0, none⟩), .int .u64 6] rfl (by (try simp only [List.map_toArray, List.map_cons, List.map_nil]); first | done | rfl | (simp only [List.length_drop, List.length_take]; rfl)) ?_; (with_reducible refine (num_Reader_Num.calls g392 t397 6 t398 t399 w _ ?side1 ?side2 A16.out).mono ?_); (case side1 => repeat (first | (with_reducible first | exact zb.out | apply IsS103.alloc | apply IsS103.drewN | apply IsS103.drew | apply IsS103.set_0 | refine IsS103.far ?_ zg.out _ | refine IsS103.far ?_ zh.out _) | exact zb.out)); (case side2 => repeat (first | (with_reducible first | exact HB.out | apply wA | apply wN | apply wD | refine wS ?_ (IsS103.ge zb.out) | refine wS ?_ zs.out | refine wS ?_ zv.out) | exact HB.out)); rintro e w17 ⟨rfl, hi, hb, hk⟩; refine ⟨_, rfl, ?_⟩; have n0_ := Aside0.mk (KeepBut.blk hk (g' := zj) (o := .cells #[.int .i64 0, .slice none 0 0, .slice none 0 0, .slice none 0 0, .int .i64 0, .int .i64 0, .int .i64 0, .int .i64 0] 27 (0, 0)) (by (with_reducible repeat (first | refine bN ?_ _ | refine bD ?_ | refine bA ?_ _)); exact zc.out) zy.out (by simp)); have n1_ := Aside0.mk (KeepBut.blk hk (g' := zd) (o := .cells #[.int .i64 (wrap64 (t393)), .slice none 0 0, .slice none 0 0, .slice none 0 0, .int .i64 0, .int .i64 0, .int .i64 0, .int .i64 0] 27 (0, 0)) (by (with_reducible repeat (first | refine bN ?_ _ | refine bD ?_ | refine bA ?_ _)); exact za.out) zw.out (by simp)); have n2_ := Aside0.mk (hb); have n3_ := Aside0.mk (hi); clear zc; clear za; clear HB; clear zb; have zc := n0_; have za := n1_; have HB := n2_; have zb := n3_; clear n0_ n1_ n2_ n3_; (try clear hb); (try clear hb2); (try clear hk); (try clear hi)))
   go_loopg [24] k (fun kq v24 w' => ∃ (yr : Int) (yc : RdS) (zz : List ByteArray) (yd : List ByteArray) (zr : Value) (zx : Value), v24 = .int .u64 yr ∧ Aside0 (page_Decode.l0 kq l0 t396 t398 yr yc (wrap64 (t393)) zz yd 0 0 0 0 = some (r1, r2, r3, r4, r5, r6, r7, r8, r9, r10)) ∧ Aside0 (kq ≤ k) ∧ Aside0 (Kd.R Kd.string 9 w' w.heap.size (fun k_ => some k_ ≠ (zx : Value).ownBlock) zr zz) ∧ Aside0 (Kd.R Kd.string 9 w' w.heap.size (fun k_ => some k_ ≠ (zr : Value).ownBlock) zx yd) ∧ Aside0 (w'.heap[zj]? = some (.cells #[.int .i64 0, (.slice none 0 0), (.slice none 0 0), (.slice none 0 0), .int .i64 0, .int .i64 0, .int .i64 0, .int .i64 0] 27 (0, 0))) ∧ Aside0 (w'.heap[zd]? = some (.cells #[.int .i64 (wrap64 (t393)), zr, zx, (.slice none 0 0), .int .i64 0, .int .i64 0, .int .i64 0, .int .i64 0] 27 (0, 0))) ∧ Aside0 (IsS103 w w' g392 yc) ∧ Aside0 (Below w.heap.size w w'))
   case atStart => exact ⟨(0), (t399), (([] : List ByteArray)), (([] : List ByteArray)), (.slice none 0 0), (.slice none 0 0), (by first | rfl | (simp; done) | (simp [*]; done)), H', ⟨Nat.le_refl _⟩, ⟨by first | exact Kd.R_nil _ _ _ _ _ | exact Kd.N_nil _ _ _ _ _ | exact Kd.V_nil _ _ _ _ _ | exact Kd.Q_nil _ _ _ _ _ | exact Kd.S_nil _ _ _ _ _⟩, ⟨by first | exact Kd.R_nil _ _ _ _ _ | exact Kd.N_nil _ _ _ _ _ | exact Kd.V_nil _ _ _ _ _ | exact Kd.Q_nil _ _ _ _ _ | exact Kd.S_nil _ _ _ _ _⟩, ⟨by (with_reducible repeat (first | refine bN ?_ _ | refine bD ?_ | refine bA ?_ _)); exact zc.out⟩, ⟨by (with_reducible repeat (first | refine bN ?_ _ | refine bD ?_ | refine bA ?_ _)); exact za.out⟩, ⟨by repeat (first | (with_reducible first | exact zb.out | apply IsS103.alloc | apply IsS103.drewN | apply IsS103.drew | apply IsS103.set_0 | refine IsS103.far ?_ zg.out _ | refine IsS103.far ?_ zh.out _) | exact zb.out)⟩, ⟨by repeat (first | (with_reducible first | exact HB.out | apply wA | apply wN | apply wD | refine wS ?_ (IsS103.ge zb.out) | refine wS ?_ zs.out | refine wS ?_ zv.out) | exact HB.out)⟩⟩
   case round =>
    clear H'
    (try clear c1); (try clear c2); (try clear p2); (try clear c4); (try clear p6); (try clear c10); (try clear c11); (try clear c15); (try clear c15b0); (try clear c15b1); (try clear jb jc jd je jf jg jh ji); (try clear jr js jt ju jv jw jx jy); (try clear jj jk jl jm jn jo jp jq); (try clear jz zaa zab zac zad zae zaf zag)
    obtain ⟨yr, yc, zz, yd, zr, zx, rfl, HA, HK1, zf, zi, zc, za, zb, HB⟩ := hrel
    cases gk with
    | zero => exact absurd HA.out (by simp [page_Decode.l0])
    | succ k1 =>
     have H := HA.out
     clear HA
     simp only [page_Decode.l0] at H
     by_cases c18 : yr < t398
     ·rw [if_pos c18] at H
      have c18b0 : decide (yr < t398) = true := decide_eq_true c18
      clear c18
      replace H := Option.bind_eq_some_iff.mp H
      obtain ⟨⟨t400, t401⟩, A190, H⟩ := H
      replace H : (if zz.length < 8796093022208 then ((num_Reader_Text.f t401 48).bind fun bt405 => (if yd.length < 8796093022208 then (page_Decode.l0 k1 l0 t396 t398 (IntKind.u64.wrap (yr + 1)) bt405.2 (wrap64 (t393)) (zz ++ [t400]) (yd ++ [bt405.1]) 0 0 0 0) else (none))) else (none)) = some (r1, r2, r3, r4, r5, r6, r7, r8, r9, r10) := H
      have A19 := Aside0.mk A190
      clear A190
      by_cases c20 : zz.length < 8796093022208
      ·rw [if_pos c20] at H
       have zbw := Aside0.mk c20
       clear c20
       obtain ⟨y402, yu⟩ : ∃ y_ : List ByteArray, y_ = (zz ++ [t400]) := ⟨_, rfl⟩
       replace H : ((num_Reader_Text.f t401 48).bind fun bt405 => (if yd.length < 8796093022208 then (page_Decode.l0 k1 l0 t396 t398 (IntKind.u64.wrap (yr + 1)) bt405.2 (wrap64 (t393)) y402 (yd ++ [bt405.1]) 0 0 0 0) else (none))) = some (r1, r2, r3, r4, r5, r6, r7, r8, r9, r10) := by first | (rw [yu]; with_reducible exact H) | (have H2_ := (Option.bind_some _ _).symm.trans H; rw [yu]; with_reducible exact H2_) | (have H2_ := (Option.bind_some _ _).symm.trans H; with_reducible exact H2_) | with_reducible exact H | (rw [yu]; exact H) | exact H
       have zbx := Aside0.mk yu
       clear yu
       replace H := Option.bind_eq_some_iff.mp H
       obtain ⟨⟨t405, t406⟩, A210, H⟩ := H
       replace H : (if yd.length < 8796093022208 then (page_Decode.l0 k1 l0 t396 t398 (IntKind.u64.wrap (yr + 1)) t406 (wrap64 (t393)) y402 (yd ++ [t405]) 0 0 0 0) else (none)) = some (r1, r2, r3, r4, r5, r6, r7, r8, r9, r10) := H
       have A21 := Aside0.mk A210
       clear A210
       by_cases c22 : yd.length < 8796093022208
       ·rw [if_pos c22] at H
        have zby := Aside0.mk c22
        clear c22
        obtain ⟨y407, yv⟩ : ∃ y_ : List ByteArray, y_ = (yd ++ [t405]) := ⟨_, rfl⟩
        replace H : (page_Decode.l0 k1 l0 t396 t398 (IntKind.u64.wrap (yr + 1)) t406 (wrap64 (t393)) y402 y407 0 0 0 0) = some (r1, r2, r3, r4, r5, r6, r7, r8, r9, r10) := by first | (rw [yv]; with_reducible exact H) | (have H2_ := (Option.bind_some _ _).symm.trans H; rw [yv]; with_reducible exact H2_) | (have H2_ := (Option.bind_some _ _).symm.trans H; with_reducible exact H2_) | with_reducible exact H | (rw [yv]; exact H) | exact H
        have zbz := Aside0.mk yv
        clear yv
        have H' := Aside0.mk H
        clear H
        try go_wp2
        have n0_ := Aside0.mk (Kd.R_drew zf.out)
        have n1_ := Aside0.mk (Kd.R_drew zi.out)
        have n2_ := Aside0.mk (bD zc.out)
        have n3_ := Aside0.mk (bD za.out)
        have n4_ := Aside0.mk (IsS103.drew zb.out)
        have n5_ := Aside0.mk (wD HB.out)
        clear zf zi zc za zb HB
        have zf := n0_
        have zi := n1_
        have zc := n2_
        have za := n3_
        have zb := n4_
        have HB := n5_
        clear n0_ n1_ n2_ n3_ n4_ n5_
        refine start_ (n := 8) (S := fun w' => w'.cell? ⟨zd, 0, none⟩ = some (.int .i64 (wrap64 (t393))) ∧ w'.cell? ⟨zd, 1, none⟩ = some (zr) ∧ w'.cell? ⟨zd, 2, none⟩ = some (zx) ∧ w'.cell? ⟨zd, 3, none⟩ = some (.slice none 0 0) ∧ w'.cell? ⟨zd, 4, none⟩ = some (.int .i64 0) ∧ w'.cell? ⟨zd, 5, none⟩ = some (.int .i64 0) ∧ w'.cell? ⟨zd, 6, none⟩ = some (.int .i64 0) ∧ w'.cell? ⟨zd, 7, none⟩ = some (.int .i64 0)) (ds := [7]) #[false, false, false, false, false, false, false, false] (by kernel_rfl) rfl rfl ⟨(blk_cell za.out 0).trans rfl, (blk_cell za.out 1).trans rfl, (blk_cell za.out 2).trans rfl, (blk_cell za.out 3).trans rfl, (blk_cell za.out 4).trans rfl, (blk_cell za.out 5).trans rfl, (blk_cell za.out 6).trans rfl, (blk_cell za.out 7).trans rfl⟩ (fun hHeld => ?_); refine with_tabW page_Decode.tab8 page_Decode.bits8 (fun HT_ HW_ => ?_)
        generalize wr.drew = w23 at zf zi zc za zb HB hHeld ⊢
        refine pure_ (i := 0) (N := some 26) (v := ?_) (a' := ?_) #[true, false, false, false, false, false, false, false] rfl rfl (any_of HT_.out (by kernel_rfl)) (fun _ _ _ h => h) (Or.inl ⟨by rfl, ?_⟩) ?_ ?_
        rotate_left
        ·intro w'
         go_simp
         with_reducible rfl
        rotate_left
        ·simp only [Act.put, List.setIfInBounds_toArray, List.set_cons_zero, List.set_cons_succ, i64_w, i32_w]
         rfl
        refine pure_ (i := 2) (N := some 28) (v := ?_) (a' := ?_) #[true, false, true, false, false, false, false, false] rfl rfl (any_of HT_.out (by kernel_rfl)) (fun _ _ _ h => h) (Or.inl ⟨by rfl, ?_⟩) ?_ ?_
        rotate_left
        ·intro w'
         go_simp
         with_reducible rfl
        rotate_left
        ·simp only [Act.put, List.setIfInBounds_toArray, List.set_cons_zero, List.set_cons_succ, i64_w, i32_w]
         rfl
        refine take_ (i := 1) (N := some 27) (v := ?_) (a' := ?_) #[true, true, true, false, false, false, false, false] rfl rfl (take_ofW HT_.out HW_.out (by kernel_rfl)) (fun _ _ _ h => h) (Or.inl ⟨by rfl, ?_⟩) hHeld ?_ ?_
        rotate_left
        ·rintro w' ⟨s0, s1, s2, s3, s4, s5, s6, s7⟩
         go_simp
         with_reducible rfl
        rotate_left
        ·simp only [Act.put, List.setIfInBounds_toArray, List.set_cons_zero, List.set_cons_succ, i64_w, i32_w]
         rfl
        refine one_ (i := 3) (N := some 29) #[true, true, true, true, false, false, false, false] rfl rfl (one_of HT_.out (by kernel_rfl)) (by decide) (fun K hK => ?_)
        refine goes_ Try.func50 (by kernel_rfl) rfl #[.pointer (some ⟨g392, 0, none⟩), .int .i64 24] (by rfl) rfl rfl (by (try simp only [List.map_toArray, List.map_cons, List.map_nil]); first | done | rfl | (simp only [List.length_drop, List.length_take]; rfl)) ?_
        with_reducible refine (num_Reader_Text.calls g392 yc 24 t400 t401 w _ ?side1 ?side2 A19.out).mono ?_
        (case side1 => repeat (first | (with_reducible first | exact zb.out | apply IsS103.alloc | apply IsS103.drewN | apply IsS103.drew | apply IsS103.set_0 | refine IsS103.far ?_ zg.out _ | refine IsS103.far ?_ zh.out _) | exact zb.out))
        (case side2 => repeat (first | (with_reducible first | exact HB.out | apply wA | apply wN | apply wD | refine wS ?_ (IsS103.ge zb.out) | refine wS ?_ zs.out | refine wS ?_ zv.out) | exact HB.out))
        rintro e w24 ⟨rfl, hi, hb, hk⟩
        refine ⟨_, rfl, ?_⟩
        have n0_ := Aside0.mk (Kd.R_mono (Kd.R_keep (IsS103.apart (show IsS103 w _ g392 yc from by repeat (first | (with_reducible first | exact zb.out | apply IsS103.alloc | apply IsS103.drewN | apply IsS103.drew | apply IsS103.set_0 | refine IsS103.far ?_ zg.out _ | refine IsS103.far ?_ zh.out _) | exact zb.out)) (by (with_reducible repeat (first | apply Kd.R_alloc | apply Kd.R_drewN | apply Kd.R_drew)); exact zf.out) (by decide)) hk (fun _ h => h.2)) (fun _ h => h.1))
        have n1_ := Aside0.mk (Kd.R_mono (Kd.R_keep (IsS103.apart (show IsS103 w _ g392 yc from by repeat (first | (with_reducible first | exact zb.out | apply IsS103.alloc | apply IsS103.drewN | apply IsS103.drew | apply IsS103.set_0 | refine IsS103.far ?_ zg.out _ | refine IsS103.far ?_ zh.out _) | exact zb.out)) (by (with_reducible repeat (first | apply Kd.R_alloc | apply Kd.R_drewN | apply Kd.R_drew)); exact zi.out) (by decide)) hk (fun _ h => h.2)) (fun _ h => h.1))
        have n2_ := Aside0.mk (KeepBut.blk hk (g' := zj) (o := .cells #[.int .i64 0, .slice none 0 0, .slice none 0 0, .slice none 0 0, .int .i64 0, .int .i64 0, .int .i64 0, .int .i64 0] 27 (0, 0)) (by (with_reducible repeat (first | refine bN ?_ _ | refine bD ?_ | refine bA ?_ _)); exact zc.out) zy.out (by simp))
        have n3_ := Aside0.mk (KeepBut.blk hk (g' := zd) (o := .cells #[.int .i64 (wrap64 (t393)), zr, zx, .slice none 0 0, .int .i64 0, .int .i64 0, .int .i64 0, .int .i64 0] 27 (0, 0)) (by (with_reducible repeat (first | refine bN ?_ _ | refine bD ?_ | refine bA ?_ _)); exact za.out) zw.out (by simp))
        have n4_ := Aside0.mk (hb)
        have n5_ := Aside0.mk (hi)
        clear zf zi zc za HB zb
        have zf := n0_
        have zi := n1_
        have zc := n2_
        have za := n3_
        have HB := n4_
        have zb := n5_
        clear n0_ n1_ n2_ n3_ n4_ n5_
        (try clear hb)
        (try clear hb2)
        (try clear hk)
        (try clear hi)
        refine hK.out _ _ ⟨(blk_cell za.out 0).trans rfl, (blk_cell za.out 1).trans rfl, (blk_cell za.out 2).trans rfl, (blk_cell za.out 3).trans rfl, (blk_cell za.out 4).trans rfl, (blk_cell za.out 5).trans rfl, (blk_cell za.out 6).trans rfl, (blk_cell za.out 7).trans rfl⟩ (fun hHeld => ?_)
        clear hK K
        refine norm_ (a' := ?_) ?_ ?_
        rotate_left
        ·show Act.put _ (some 29) _ = _
         simp only [Act.put, List.setIfInBounds_toArray, List.set_cons_zero, List.set_cons_succ, i64_w, i32_w]
         rfl
        refine one_ (i := 4) (N := some 30) #[true, true, true, true, true, false, false, false] rfl rfl (one_of HT_.out (by kernel_rfl)) (by decide) (fun K hK => ?_)
        refine value_ (w1 := ?_) (v := ?_) (by rfl) rfl ?_ ?_
        rotate_left 2
        ·go_simp
         constructor
         ·rfl
         ·rfl
        refine hK.out _ _ ⟨(blk_cell (bA za.out _) 0).trans rfl, (blk_cell (bA za.out _) 1).trans rfl, (blk_cell (bA za.out _) 2).trans rfl, (blk_cell (bA za.out _) 3).trans rfl, (blk_cell (bA za.out _) 4).trans rfl, (blk_cell (bA za.out _) 5).trans rfl, (blk_cell (bA za.out _) 6).trans rfl, (blk_cell (bA za.out _) 7).trans rfl⟩ (fun hHeld => ?_)
        clear hK K
        refine norm_ (a' := ?_) ?_ ?_
        rotate_left
        ·show Act.put _ (some 30) _ = _
         simp only [Act.put, List.setIfInBounds_toArray, List.set_cons_zero, List.set_cons_succ, i64_w, i32_w]
         rfl
        refine one_ (i := 5) (N := some 31) #[true, true, true, true, true, true, false, false] rfl rfl (one_of HT_.out (by kernel_rfl)) (by decide) (fun K hK => ?_)
        refine Kd.R_append_step Kd.string (w0 := w) w.heap.size (by rfl) (.tmp 27) (.tmp 30) 24 9 (.string ⟨#[]⟩) 16 rfl Try.underlying24 info9 rfl (by decide) (by omega) zr zz t400 [.string t400] (fun k_ => some k_ ≠ (zx : Value).ownBlock) (fun _ => False) rfl rfl ?aP (fun _ hk => hk.elim) ?aF ?aO ?aB ?aS ?aL ?_
        (case aP => exact rfl)
        (case aB => exact (by repeat (first | (with_reducible first | exact HB.out | apply wA | apply wN | apply wD | refine wS ?_ (IsS103.ge zb.out) | refine wS ?_ zs.out | refine wS ?_ zv.out) | exact HB.out)))
        (case aF => exact (fun k_ hk => Kd.fresh' (Kd.R_lt (by (with_reducible repeat (first | apply Kd.R_alloc | apply Kd.R_drewN | apply Kd.R_drew)); exact zi.out)) k_ hk))
        (case aO => exact (by (with_reducible repeat (first | apply Kd.R_alloc | apply Kd.R_drewN | apply Kd.R_drew)); exact zf.out))
        (case aS => exact (below_size (by repeat (first | (with_reducible first | exact HB.out | apply wA | apply wN | apply wD | refine wS ?_ (IsS103.ge zb.out) | refine wS ?_ zs.out | refine wS ?_ zv.out) | exact HB.out))))
        (case aL => have := zbw.out; omega)
        intro v403 w25 ho hb hg hat
        rw [← zbx.out] at ho
        have n0_ := Aside0.mk (Kd.R_after (ok := (fun _ => True)) (by (with_reducible repeat (first | apply Kd.R_alloc | apply Kd.R_drewN | apply Kd.R_drew)); exact Kd.R_mono zi.out (fun _ hk => ⟨trivial, hk⟩)) hg hat)
        have n1_ := Aside0.mk (blk_grown (g := zj) (o := .cells #[.int .i64 0, .slice none 0 0, .slice none 0 0, .slice none 0 0, .int .i64 0, .int .i64 0, .int .i64 0, .int .i64 0] 27 (0, 0)) (by (with_reducible repeat (first | refine bN ?_ _ | refine bD ?_ | refine bA ?_ _)); exact zc.out) hg (Kd.R_ne zf.out zc.out (by decide)))
        have n2_ := Aside0.mk (blk_grown (g := zd) (o := .cells #[.int .i64 (wrap64 (t393)), zr, zx, .slice none 0 0, .int .i64 0, .int .i64 0, .int .i64 0, .int .i64 0] 27 (0, 0)) (by (with_reducible repeat (first | refine bN ?_ _ | refine bD ?_ | refine bA ?_ _)); exact za.out) hg (Kd.R_ne zf.out za.out (by decide)))
        have n3_ := Aside0.mk (IsS103.grown (by repeat (first | (with_reducible first | exact zb.out | apply IsS103.alloc | apply IsS103.drewN | apply IsS103.drew | apply IsS103.set_0 | refine IsS103.far ?_ zg.out _ | refine IsS103.far ?_ zh.out _) | exact zb.out)) hg (IsS103.own_ne zb.out zf.out (by decide)))
        have n4_ := Aside0.mk (hb)
        have n5_ := Aside0.mk (ho)
        clear zi zc za zb HB zf
        have zi := n0_
        have zc := n1_
        have za := n2_
        have zb := n3_
        have HB := n4_
        have yh := n5_
        clear n0_ n1_ n2_ n3_ n4_ n5_
        clear ho hb hg hat
        obtain ⟨Ao26, co26, eo26⟩ := Kd.R_slice yh.out
        (first | subst eo26 | (injection eo26 with f1_ f2_ f3_; have f4_ := f1_.symm; have f5_ := f3_.symm; clear f1_ f2_ f3_; subst f4_; subst f5_))
        refine hK.out _ _ ⟨(blk_cell za.out 0).trans rfl, (blk_cell za.out 1).trans rfl, (blk_cell za.out 2).trans rfl, (blk_cell za.out 3).trans rfl, (blk_cell za.out 4).trans rfl, (blk_cell za.out 5).trans rfl, (blk_cell za.out 6).trans rfl, (blk_cell za.out 7).trans rfl⟩ (fun hHeld => ?_)
        clear hK K
        refine norm_ (a' := ?_) ?_ ?_
        rotate_left
        ·show Act.put _ (some 31) _ = _
         simp only [Act.put, List.setIfInBounds_toArray, List.set_cons_zero, List.set_cons_succ, i64_w, i32_w]
         rfl
        refine pure_ (i := 6) (N := some 32) (v := ?_) (a' := ?_) #[true, true, true, true, true, true, true, false] rfl rfl (any_of HT_.out (by kernel_rfl)) (fun _ _ _ h => h) (Or.inl ⟨by rfl, ?_⟩) ?_ ?_
        rotate_left
        ·intro w'
         go_simp
         with_reducible rfl
        rotate_left
        ·simp only [Act.put, List.setIfInBounds_toArray, List.set_cons_zero, List.set_cons_succ, i64_w, i32_w]
         rfl
        refine last_ (i := 7) (N := none) #[true, true, true, true, true, true, true, true] rfl rfl (one_of HT_.out (by kernel_rfl)) (by decide) (fun K hK => ?_)
        have hs27 : w25.cell? ⟨zd, 1, none⟩ = some (zr) := (blk_cell za.out 1).trans rfl
        have zf3 := blk_frozen za.out 1
        have zfa := zt.out
        have zfb := ye.out
        refine skip_ (w1 := ?_) (by rfl) rfl ?_ ?_
        rotate_left
        ·go_simp
         rfl
        refine hK.out _ _ ?_
        clear hK K
        refine done_ (done_of HT_.out (by kernel_rfl)) ?_
        try go_wp2
        have n0_ : Aside0 (Kd.R Kd.string 9 (w25.setCell ⟨zd, 1, none⟩ (.slice Ao26 y402.length co26)) w.heap.size (fun k_ => some k_ ≠ (.slice Ao26 y402.length co26 : Value).ownBlock) zx yd) := ⟨by (with_reducible repeat (first | apply Kd.R_alloc | apply Kd.R_drewN | apply Kd.R_drew)); exact Kd.R_mono (Kd.R_far (p := ⟨zd, 1, none⟩) (Kd.R_types zi.out za.out (by decide)) (fun _ hk => hk.2) (.slice Ao26 y402.length co26)) (fun _ hk => hk.1.2)⟩
        have n1_ : Aside0 (Kd.R Kd.string 9 (w25.setCell ⟨zd, 1, none⟩ (.slice Ao26 y402.length co26)) w.heap.size (fun k_ => some k_ ≠ (zx : Value).ownBlock) (.slice Ao26 y402.length co26) y402) := ⟨by (with_reducible repeat (first | apply Kd.R_alloc | apply Kd.R_drewN | apply Kd.R_drew)); exact Kd.R_mono (Kd.R_far (p := ⟨zd, 1, none⟩) (Kd.R_types yh.out za.out (by decide)) (fun _ hk => hk.2) (.slice Ao26 y402.length co26)) (fun _ hk => hk.1)⟩
        have n2_ : Aside0 ((w25.setCell ⟨zd, 1, none⟩ (.slice Ao26 y402.length co26)).heap[zj]? = some (.cells #[.int .i64 0, .slice none 0 0, .slice none 0 0, .slice none 0 0, .int .i64 0, .int .i64 0, .int .i64 0, .int .i64 0] 27 (0, 0))) := ⟨by (with_reducible repeat (first | refine bN ?_ _ | refine bD ?_ | refine bA ?_ _)); refine blk_far ?_ zt.out _; (with_reducible repeat (first | refine bN ?_ _ | refine bD ?_ | refine bA ?_ _)); exact zc.out⟩
        have n3_ : Aside0 ((w25.setCell ⟨zd, 1, none⟩ (.slice Ao26 y402.length co26)).heap[zd]? = some (.cells #[.int .i64 (wrap64 (t393)), .slice Ao26 y402.length co26, zx, .slice none 0 0, .int .i64 0, .int .i64 0, .int .i64 0, .int .i64 0] 27 (0, 0))) := ⟨by (with_reducible repeat (first | refine bN ?_ _ | refine bD ?_ | refine bA ?_ _)); refine blk_put (cs := #[.int .i64 (wrap64 (t393)), zr, zx, .slice none 0 0, .int .i64 0, .int .i64 0, .int .i64 0, .int .i64 0]) ?_ 1 _ rfl; (with_reducible repeat (first | refine bN ?_ _ | refine bD ?_ | refine bA ?_ _)); exact za.out⟩
        have n4_ : Aside0 (IsS103 w (w25.setCell ⟨zd, 1, none⟩ (.slice Ao26 y402.length co26)) g392 t401) := ⟨by repeat (first | (with_reducible first | exact zb.out | apply IsS103.alloc | apply IsS103.drewN | apply IsS103.drew | apply IsS103.set_0 | refine IsS103.far ?_ zg.out _ | refine IsS103.far ?_ zh.out _) | exact zb.out)⟩
        have n5_ : Aside0 (Below w.heap.size w (w25.setCell ⟨zd, 1, none⟩ (.slice Ao26 y402.length co26))) := ⟨by repeat (first | (with_reducible first | exact HB.out | apply wA | apply wN | apply wD | refine wS ?_ (IsS103.ge zb.out) | refine wS ?_ zs.out | refine wS ?_ zv.out) | exact HB.out)⟩
        (try clear zi)
        (try clear yh)
        (try clear zc)
        (try clear za)
        (try clear zb)
        (try clear HB)
        generalize (w25.setCell ⟨zd, 1, none⟩ (.slice Ao26 y402.length co26)) = w28 at n0_ n1_ n2_ n3_ n4_ n5_ ⊢
        have zi := n0_
        have yh := n1_
        have zc := n2_
        have za := n3_
        have zb := n4_
        have HB := n5_
        clear n0_ n1_ n2_ n3_ n4_ n5_
        have n0_ := Aside0.mk (Kd.R_drew zi.out)
        have n1_ := Aside0.mk (Kd.R_drew yh.out)
        have n2_ := Aside0.mk (bD zc.out)
        have n3_ := Aside0.mk (bD za.out)
        have n4_ := Aside0.mk (IsS103.drew zb.out)
        have n5_ := Aside0.mk (wD HB.out)
        clear zi yh zc za zb HB
        have zi := n0_
        have yh := n1_
        have zc := n2_
        have za := n3_
        have zb := n4_
        have HB := n5_
        clear n0_ n1_ n2_ n3_ n4_ n5_
        refine start_ (n := 8) (S := fun w' => w'.cell? ⟨zd, 0, none⟩ = some (.int .i64 (wrap64 (t393))) ∧ w'.cell? ⟨zd, 1, none⟩ = some (.slice Ao26 y402.length co26) ∧ w'.cell? ⟨zd, 2, none⟩ = some (zx) ∧ w'.cell? ⟨zd, 3, none⟩ = some (.slice none 0 0) ∧ w'.cell? ⟨zd, 4, none⟩ = some (.int .i64 0) ∧ w'.cell? ⟨zd, 5, none⟩ = some (.int .i64 0) ∧ w'.cell? ⟨zd, 6, none⟩ = some (.int .i64 0) ∧ w'.cell? ⟨zd, 7, none⟩ = some (.int .i64 0)) (ds := [7]) #[false, false, false, false, false, false, false, false] (by kernel_rfl) rfl rfl ⟨(blk_cell za.out 0).trans rfl, (blk_cell za.out 1).trans rfl, (blk_cell za.out 2).trans rfl, (blk_cell za.out 3).trans rfl, (blk_cell za.out 4).trans rfl, (blk_cell za.out 5).trans rfl, (blk_cell za.out 6).trans rfl, (blk_cell za.out 7).trans rfl⟩ (fun hHeld => ?_); refine with_tabW page_Decode.tab9 page_Decode.bits9 (fun HT_ HW_ => ?_)
        generalize w28.drew = w29 at zi yh zc za zb HB hHeld ⊢
        refine pure_ (i := 0) (N := some 33) (v := ?_) (a' := ?_) #[true, false, false, false, false, false, false, false] rfl rfl (any_of HT_.out (by kernel_rfl)) (fun _ _ _ h => h) (Or.inl ⟨by rfl, ?_⟩) ?_ ?_
        rotate_left
        ·intro w'
         go_simp
         with_reducible rfl
        rotate_left
        ·simp only [Act.put, List.setIfInBounds_toArray, List.set_cons_zero, List.set_cons_succ, i64_w, i32_w]
         rfl
        refine pure_ (i := 2) (N := some 35) (v := ?_) (a' := ?_) #[true, false, true, false, false, false, false, false] rfl rfl (any_of HT_.out (by kernel_rfl)) (fun _ _ _ h => h) (Or.inl ⟨by rfl, ?_⟩) ?_ ?_
        rotate_left
        ·intro w'
         go_simp
         with_reducible rfl
        rotate_left
        ·simp only [Act.put, List.setIfInBounds_toArray, List.set_cons_zero, List.set_cons_succ, i64_w, i32_w]
         rfl
        refine take_ (i := 1) (N := some 34) (v := ?_) (a' := ?_) #[true, true, true, false, false, false, false, false] rfl rfl (take_ofW HT_.out HW_.out (by kernel_rfl)) (fun _ _ _ h => h) (Or.inl ⟨by rfl, ?_⟩) hHeld ?_ ?_
        rotate_left
        ·rintro w' ⟨s0, s1, s2, s3, s4, s5, s6, s7⟩
         go_simp
         with_reducible rfl
        rotate_left
        ·simp only [Act.put, List.setIfInBounds_toArray, List.set_cons_zero, List.set_cons_succ, i64_w, i32_w]
         rfl
        refine one_ (i := 3) (N := some 36) #[true, true, true, true, false, false, false, false] rfl rfl (one_of HT_.out (by kernel_rfl)) (by decide) (fun K hK => ?_)
        refine goes_ Try.func50 (by kernel_rfl) rfl #[.pointer (some ⟨g392, 0, none⟩), .int .i64 48] (by rfl) rfl rfl (by (try simp only [List.map_toArray, List.map_cons, List.map_nil]); first | done | rfl | (simp only [List.length_drop, List.length_take]; rfl)) ?_
        with_reducible refine (num_Reader_Text.calls g392 t401 48 t405 t406 w _ ?side1 ?side2 A21.out).mono ?_
        (case side1 => repeat (first | (with_reducible first | exact zb.out | apply IsS103.alloc | apply IsS103.drewN | apply IsS103.drew | apply IsS103.set_0 | refine IsS103.far ?_ zg.out _ | refine IsS103.far ?_ zh.out _) | exact zb.out))
        (case side2 => repeat (first | (with_reducible first | exact HB.out | apply wA | apply wN | apply wD | refine wS ?_ (IsS103.ge zb.out) | refine wS ?_ zs.out | refine wS ?_ zv.out) | exact HB.out))
        rintro e w30 ⟨rfl, hi, hb, hk⟩
        refine ⟨_, rfl, ?_⟩
        have n0_ := Aside0.mk (Kd.R_mono (Kd.R_keep (IsS103.apart (show IsS103 w _ g392 t401 from by repeat (first | (with_reducible first | exact zb.out | apply IsS103.alloc | apply IsS103.drewN | apply IsS103.drew | apply IsS103.set_0 | refine IsS103.far ?_ zg.out _ | refine IsS103.far ?_ zh.out _) | exact zb.out)) (by (with_reducible repeat (first | apply Kd.R_alloc | apply Kd.R_drewN | apply Kd.R_drew)); exact zi.out) (by decide)) hk (fun _ h => h.2)) (fun _ h => h.1))
        have n1_ := Aside0.mk (KeepBut.blk hk (g' := zj) (o := .cells #[.int .i64 0, .slice none 0 0, .slice none 0 0, .slice none 0 0, .int .i64 0, .int .i64 0, .int .i64 0, .int .i64 0] 27 (0, 0)) (by (with_reducible repeat (first | refine bN ?_ _ | refine bD ?_ | refine bA ?_ _)); exact zc.out) zy.out (by simp))
        have n2_ := Aside0.mk (KeepBut.blk hk (g' := zd) (o := .cells #[.int .i64 (wrap64 (t393)), .slice Ao26 y402.length co26, zx, .slice none 0 0, .int .i64 0, .int .i64 0, .int .i64 0, .int .i64 0] 27 (0, 0)) (by (with_reducible repeat (first | refine bN ?_ _ | refine bD ?_ | refine bA ?_ _)); exact za.out) zw.out (by simp))
        have n3_ := Aside0.mk (Kd.R_mono (Kd.R_keep (IsS103.apart (show IsS103 w _ g392 t401 from by repeat (first | (with_reducible first | exact zb.out | apply IsS103.alloc | apply IsS103.drewN | apply IsS103.drew | apply IsS103.set_0 | refine IsS103.far ?_ zg.out _ | refine IsS103.far ?_ zh.out _) | exact zb.out)) (by (with_reducible repeat (first | apply Kd.R_alloc | apply Kd.R_drewN | apply Kd.R_drew)); exact yh.out) (by decide)) hk (fun _ h => h.2)) (fun _ h => h.1))
        have n4_ := Aside0.mk (hb)
        have n5_ := Aside0.mk (hi)
        clear zi zc za yh HB zb
        have zi := n0_
        have zc := n1_
        have za := n2_
        have yh := n3_
        have HB := n4_
        have zb := n5_
        clear n0_ n1_ n2_ n3_ n4_ n5_
        (try clear hb)
        (try clear hb2)
        (try clear hk)
        (try clear hi)
        refine hK.out _ _ ⟨(blk_cell za.out 0).trans rfl, (blk_cell za.out 1).trans rfl, (blk_cell za.out 2).trans rfl, (blk_cell za.out 3).trans rfl, (blk_cell za.out 4).trans rfl, (blk_cell za.out 5).trans rfl, (blk_cell za.out 6).trans rfl, (blk_cell za.out 7).trans rfl⟩ (fun hHeld => ?_)
        clear hK K
        refine norm_ (a' := ?_) ?_ ?_
        rotate_left
        ·show Act.put _ (some 36) _ = _
         simp only [Act.put, List.setIfInBounds_toArray, List.set_cons_zero, List.set_cons_succ, i64_w, i32_w]
         rfl
        refine one_ (i := 4) (N := some 37) #[true, true, true, true, true, false, false, false] rfl rfl (one_of HT_.out (by kernel_rfl)) (by decide) (fun K hK => ?_)
        refine value_ (w1 := ?_) (v := ?_) (by rfl) rfl ?_ ?_
        rotate_left 2
        ·go_simp
         constructor
         ·rfl
         ·rfl
        refine hK.out _ _ ⟨(blk_cell (bA za.out _) 0).trans rfl, (blk_cell (bA za.out _) 1).trans rfl, (blk_cell (bA za.out _) 2).trans rfl, (blk_cell (bA za.out _) 3).trans rfl, (blk_cell (bA za.out _) 4).trans rfl, (blk_cell (bA za.out _) 5).trans rfl, (blk_cell (bA za.out _) 6).trans rfl, (blk_cell (bA za.out _) 7).trans rfl⟩ (fun hHeld => ?_)
        clear hK K
        refine norm_ (a' := ?_) ?_ ?_
        rotate_left
        ·show Act.put _ (some 37) _ = _
         simp only [Act.put, List.setIfInBounds_toArray, List.set_cons_zero, List.set_cons_succ, i64_w, i32_w]
         rfl
        refine one_ (i := 5) (N := some 38) #[true, true, true, true, true, true, false, false] rfl rfl (one_of HT_.out (by kernel_rfl)) (by decide) (fun K hK => ?_)
        refine Kd.R_append_step Kd.string (w0 := w) w.heap.size (by rfl) (.tmp 34) (.tmp 37) 24 9 (.string ⟨#[]⟩) 16 rfl Try.underlying24 info9 rfl (by decide) (by omega) zx yd t405 [.string t405] (fun k_ => some k_ ≠ (.slice Ao26 y402.length co26 : Value).ownBlock) (fun _ => False) rfl rfl ?aP (fun _ hk => hk.elim) ?aF ?aO ?aB ?aS ?aL ?_
        (case aP => exact rfl)
        (case aB => exact (by repeat (first | (with_reducible first | exact HB.out | apply wA | apply wN | apply wD | refine wS ?_ (IsS103.ge zb.out) | refine wS ?_ zs.out | refine wS ?_ zv.out) | exact HB.out)))
        (case aF => exact (fun k_ hk => Kd.fresh' (Kd.R_lt (by (with_reducible repeat (first | apply Kd.R_alloc | apply Kd.R_drewN | apply Kd.R_drew)); exact yh.out)) k_ hk))
        (case aO => exact (by (with_reducible repeat (first | apply Kd.R_alloc | apply Kd.R_drewN | apply Kd.R_drew)); exact zi.out))
        (case aS => exact (below_size (by repeat (first | (with_reducible first | exact HB.out | apply wA | apply wN | apply wD | refine wS ?_ (IsS103.ge zb.out) | refine wS ?_ zs.out | refine wS ?_ zv.out) | exact HB.out))))
        (case aL => have := zby.out; omega)
        intro v408 w31 ho hb hg hat
        rw [← zbz.out] at ho
        have n0_ := Aside0.mk (blk_grown (g := zj) (o := .cells #[.int .i64 0, .slice none 0 0, .slice none 0 0, .slice none 0 0, .int .i64 0, .int .i64 0, .int .i64 0, .int .i64 0] 27 (0, 0)) (by (with_reducible repeat (first | refine bN ?_ _ | refine bD ?_ | refine bA ?_ _)); exact zc.out) hg (Kd.R_ne zi.out zc.out (by decide)))
        have n1_ := Aside0.mk (blk_grown (g := zd) (o := .cells #[.int .i64 (wrap64 (t393)), .slice Ao26 y402.length co26, zx, .slice none 0 0, .int .i64 0, .int .i64 0, .int .i64 0, .int .i64 0] 27 (0, 0)) (by (with_reducible repeat (first | refine bN ?_ _ | refine bD ?_ | refine bA ?_ _)); exact za.out) hg (Kd.R_ne zi.out za.out (by decide)))
        have n2_ := Aside0.mk (IsS103.grown (by repeat (first | (with_reducible first | exact zb.out | apply IsS103.alloc | apply IsS103.drewN | apply IsS103.drew | apply IsS103.set_0 | refine IsS103.far ?_ zg.out _ | refine IsS103.far ?_ zh.out _) | exact zb.out)) hg (IsS103.own_ne zb.out zi.out (by decide)))
        have n3_ := Aside0.mk (Kd.R_after (ok := (fun _ => True)) (by (with_reducible repeat (first | apply Kd.R_alloc | apply Kd.R_drewN | apply Kd.R_drew)); exact Kd.R_mono yh.out (fun _ hk => ⟨trivial, hk⟩)) hg hat)
        have n4_ := Aside0.mk (hb)
        have n5_ := Aside0.mk (ho)
        clear zc za zb yh HB zi
        have zc := n0_
        have za := n1_
        have zb := n2_
        have yh := n3_
        have HB := n4_
        have zah := n5_
        clear n0_ n1_ n2_ n3_ n4_ n5_
        clear ho hb hg hat
        obtain ⟨Ao32, co32, eo32⟩ := Kd.R_slice zah.out
        (first | subst eo32 | (injection eo32 with f1_ f2_ f3_; have f4_ := f1_.symm; have f5_ := f3_.symm; clear f1_ f2_ f3_; subst f4_; subst f5_))
        refine hK.out _ _ ⟨(blk_cell za.out 0).trans rfl, (blk_cell za.out 1).trans rfl, (blk_cell za.out 2).trans rfl, (blk_cell za.out 3).trans rfl, (blk_cell za.out 4).trans rfl, (blk_cell za.out 5).trans rfl, (blk_cell za.out 6).trans rfl, (blk_cell za.out 7).trans rfl⟩ (fun hHeld => ?_)
        clear hK K
        refine norm_ (a' := ?_) ?_ ?_
        rotate_left
        ·show Act.put _ (some 38) _ = _
         simp only [Act.put, List.setIfInBounds_toArray, List.set_cons_zero, List.set_cons_succ, i64_w, i32_w]
         rfl
        refine pure_ (i := 6) (N := some 39) (v := ?_) (a' := ?_) #[true, true, true, true, true, true, true, false] rfl rfl (any_of HT_.out (by kernel_rfl)) (fun _ _ _ h => h) (Or.inl ⟨by rfl, ?_⟩) ?_ ?_
        rotate_left
        ·intro w'
         go_simp
         with_reducible rfl
        rotate_left
        ·simp only [Act.put, List.setIfInBounds_toArray, List.set_cons_zero, List.set_cons_succ, i64_w, i32_w]
         rfl
        refine last_ (i := 7) (N := none) #[true, true, true, true, true, true, true, true] rfl rfl (one_of HT_.out (by kernel_rfl)) (by decide) (fun K hK => ?_)
        have hs33 : w31.cell? ⟨zd, 2, none⟩ = some (zx) := (blk_cell za.out 2).trans rfl
        have zf4 := blk_frozen za.out 2
        have zfc := zt.out
        have zfd := ye.out
        refine skip_ (w1 := ?_) (by rfl) rfl ?_ ?_
        rotate_left
        ·go_simp
         rfl
        refine hK.out _ _ ?_
        clear hK K
        refine done_ (done_of HT_.out (by kernel_rfl)) ?_
        try go_wp2
        go_roundg k1
        case measure => have := HK1.out; omega
        case rel => exact ⟨(IntKind.u64.wrap (yr + 1)), (t406), (y402), (y407), (.slice Ao26 y402.length co26), (.slice Ao32 y407.length co32), (by first | rfl | (simp; done) | (simp [*]; done)), H', ⟨by have := HK1.out; omega⟩, ⟨by (with_reducible repeat (first | apply Kd.R_alloc | apply Kd.R_drewN | apply Kd.R_drew)); exact Kd.R_mono (Kd.R_far (p := ⟨zd, 2, none⟩) (Kd.R_types yh.out za.out (by decide)) (fun _ hk => hk.2) (.slice Ao32 y407.length co32)) (fun _ hk => hk.1.2)⟩, ⟨by (with_reducible repeat (first | apply Kd.R_alloc | apply Kd.R_drewN | apply Kd.R_drew)); exact Kd.R_mono (Kd.R_far (p := ⟨zd, 2, none⟩) (Kd.R_types zah.out za.out (by decide)) (fun _ hk => hk.2) (.slice Ao32 y407.length co32)) (fun _ hk => hk.1)⟩, ⟨by (with_reducible repeat (first | refine bN ?_ _ | refine bD ?_ | refine bA ?_ _)); refine blk_far ?_ zt.out _; (with_reducible repeat (first | refine bN ?_ _ | refine bD ?_ | refine bA ?_ _)); exact zc.out⟩, ⟨by (with_reducible repeat (first | refine bN ?_ _ | refine bD ?_ | refine bA ?_ _)); refine blk_put (cs := #[.int .i64 (wrap64 (t393)), .slice Ao26 y402.length co26, zx, .slice none 0 0, .int .i64 0, .int .i64 0, .int .i64 0, .int .i64 0]) ?_ 2 _ rfl; (with_reducible repeat (first | refine bN ?_ _ | refine bD ?_ | refine bA ?_ _)); exact za.out⟩, ⟨by repeat (first | (with_reducible first | exact zb.out | apply IsS103.alloc | apply IsS103.drewN | apply IsS103.drew | apply IsS103.set_0 | refine IsS103.far ?_ zg.out _ | refine IsS103.far ?_ zh.out _) | exact zb.out)⟩, ⟨by repeat (first | (with_reducible first | exact HB.out | apply wA | apply wN | apply wD | refine wS ?_ (IsS103.ge zb.out) | refine wS ?_ zs.out | refine wS ?_ zv.out) | exact HB.out)⟩⟩
       ·rw [if_neg c22] at H
        exact absurd H (by simp)
      ·rw [if_neg c20] at H
       exact absurd H (by simp)
     ·rw [if_neg c18] at H
      have c18b0 : decide (yr < t398) = false := decide_eq_false c18
      clear c18
      have H' := Aside0.mk H
      clear H
      go_wp2
      go_meet
      case rel => exact ⟨_, (yc), (zz), (yd), (([] : List Int)), (0), (0), (0), (0), (zr), (zx), (.slice none 0 0), H', ⟨by have := HK1.out; first | omega | exact Nat.le_refl _⟩, ⟨by (with_reducible repeat (first | apply Kd.R_alloc | apply Kd.R_drewN | apply Kd.R_drew)); exact zf.out⟩, ⟨by (with_reducible repeat (first | apply Kd.R_alloc | apply Kd.R_drewN | apply Kd.R_drew)); exact zi.out⟩, ⟨by first | exact Kd.R_nil _ _ _ _ _ | exact Kd.N_nil _ _ _ _ _ | exact Kd.V_nil _ _ _ _ _ | exact Kd.Q_nil _ _ _ _ _ | exact Kd.S_nil _ _ _ _ _⟩, ⟨by (with_reducible repeat (first | refine bN ?_ _ | refine bD ?_ | refine bA ?_ _)); exact zc.out⟩, ⟨by (with_reducible repeat (first | refine bN ?_ _ | refine bD ?_ | refine bA ?_ _)); exact za.out⟩, ⟨by repeat (first | (with_reducible first | exact zb.out | apply IsS103.alloc | apply IsS103.drewN | apply IsS103.drew | apply IsS103.set_0 | refine IsS103.far ?_ zg.out _ | refine IsS103.far ?_ zh.out _) | exact zb.out)⟩, ⟨by repeat (first | (with_reducible first | exact HB.out | apply wA | apply wN | apply wD | refine wS ?_ (IsS103.ge zb.out) | refine wS ?_ zs.out | refine wS ?_ zv.out) | exact HB.out)⟩⟩
  ·rw [if_neg c15] at H
   have c15b0 : ((wrap64 (t393)) == 1) = false := beq_eq_false_iff_ne.mpr c15
   have c15b1 : ((wrap64 (t393)) != 1) = true := bne_iff_ne.mpr c15
   (first | rw [c15b0] | (simp only [i64_w, i32_w]; rw [c15b0]) | skip)
   by_cases c34 : (wrap64 (t393)) = 2
   ·rw [if_pos c34] at H
    have c34b0 : ((wrap64 (t393)) == 2) = true := beq_iff_eq.mpr c34
    have c34b1 : ((wrap64 (t393)) != 2) = false := bne_eq_false_iff_eq.mpr c34
    clear c34
    replace H := Option.bind_eq_some_iff.mp H
    obtain ⟨⟨t410, t411⟩, A350, H⟩ := H
    replace H : (page_Decode.l1 k l0 t396 t410 0 t411 (wrap64 (t393)) ([] : List ByteArray) ([] : List Int) 0 0 0 0) = some (r1, r2, r3, r4, r5, r6, r7, r8, r9, r10) := H
    have A35 := Aside0.mk A350
    clear A350
    have H' := Aside0.mk H
    clear H
    go_wp2_with (first | ((with_reducible refine gate_callee (f := 49) rfl ?_); refine goesL_ (some 44) rfl rfl Try.func49 (by kernel_rfl) rfl #[.pointer (some ⟨g392, 0, none⟩), .int .u64 8] rfl (by (try simp only [List.map_toArray, List.map_cons, List.map_nil]); first | done | rfl | (simp only [List.length_drop, List.length_take]; rfl)) ?_; (with_reducible refine (num_Reader_Num.calls g392 t397 8 t410 t411 w _ ?side1 ?side2 A35.out).mono ?_); (case side1 => repeat (first | (with_reducible first | exact zb.out | apply IsS103.alloc | apply IsS103.drewN | apply IsS103.drew | apply IsS103.set_0 | refine IsS103.far ?_ zg.out _ | refine IsS103.far ?_ zh.out _) | exact zb.out)); (case side2 => repeat (first | (with_reducible first | exact HB.out | apply wA | apply wN | apply wD | refine wS ?_ (IsS103.ge zb.out) | refine wS ?_ zs.out | refine wS ?_ zv.out) | exact HB.out)); rintro e w36 ⟨rfl, hi, hb, hk⟩; refine ⟨_, rfl, ?_⟩; have n0_ := Aside0.mk (KeepBut.blk hk (g' := zj) (o := .cells #[.int .i64 0, .slice none 0 0, .slice none 0 0, .slice none 0 0, .int .i64 0, .int .i64 0, .int .i64 0, .int .i64 0] 27 (0, 0)) (by (with_reducible repeat (first | refine bN ?_ _ | refine bD ?_ | refine bA ?_ _)); exact zc.out) zy.out (by simp)); have n1_ := Aside0.mk (KeepBut.blk hk (g' := zd) (o := .cells #[.int .i64 (wrap64 (t393)), .slice none 0 0, .slice none 0 0, .slice none 0 0, .int .i64 0, .int .i64 0, .int .i64 0, .int .i64 0] 27 (0, 0)) (by (with_reducible repeat (first | refine bN ?_ _ | refine bD ?_ | refine bA ?_ _)); exact za.out) zw.out (by simp)); have n2_ := Aside0.mk (hb); have n3_ := Aside0.mk (hi); clear zc; clear za; clear HB; clear zb; have zc := n0_; have za := n1_; have HB := n2_; have zb := n3_; clear n0_ n1_ n2_ n3_; (try clear hb); (try clear hb2); (try clear hk); (try clear hi)))
    go_loopg [45] k (fun kq v45 w' => ∃ (yf : Int) (yc : RdS) (zz : List ByteArray) (yb : List Int) (zr : Value) (zu : Value), v45 = .int .u64 yf ∧ Aside0 (page_Decode.l1 kq l0 t396 t410 yf yc (wrap64 (t393)) zz yb 0 0 0 0 = some (r1, r2, r3, r4, r5, r6, r7, r8, r9, r10)) ∧ Aside0 (kq ≤ k) ∧ Aside0 (Kd.R Kd.string 9 w' w.heap.size (fun _ => True) zr zz) ∧ Aside0 (Kd.R (Kd.int .i64) 3 w' w.heap.size (fun _ => True) zu yb) ∧ Aside0 (w'.heap[zj]? = some (.cells #[.int .i64 0, (.slice none 0 0), (.slice none 0 0), (.slice none 0 0), .int .i64 0, .int .i64 0, .int .i64 0, .int .i64 0] 27 (0, 0))) ∧ Aside0 (w'.heap[zd]? = some (.cells #[.int .i64 (wrap64 (t393)), zr, (.slice none 0 0), zu, .int .i64 0, .int .i64 0, .int .i64 0, .int .i64 0] 27 (0, 0))) ∧ Aside0 (IsS103 w w' g392 yc) ∧ Aside0 (Below w.heap.size w w'))
    case atStart => exact ⟨(0), (t411), (([] : List ByteArray)), (([] : List Int)), (.slice none 0 0), (.slice none 0 0), (by first | rfl | (simp; done) | (simp [*]; done)), H', ⟨Nat.le_refl _⟩, ⟨by first | exact Kd.R_nil _ _ _ _ _ | exact Kd.N_nil _ _ _ _ _ | exact Kd.V_nil _ _ _ _ _ | exact Kd.Q_nil _ _ _ _ _ | exact Kd.S_nil _ _ _ _ _⟩, ⟨by first | exact Kd.R_nil _ _ _ _ _ | exact Kd.N_nil _ _ _ _ _ | exact Kd.V_nil _ _ _ _ _ | exact Kd.Q_nil _ _ _ _ _ | exact Kd.S_nil _ _ _ _ _⟩, ⟨by (with_reducible repeat (first | refine bN ?_ _ | refine bD ?_ | refine bA ?_ _)); exact zc.out⟩, ⟨by (with_reducible repeat (first | refine bN ?_ _ | refine bD ?_ | refine bA ?_ _)); exact za.out⟩, ⟨by repeat (first | (with_reducible first | exact zb.out | apply IsS103.alloc | apply IsS103.drewN | apply IsS103.drew | apply IsS103.set_0 | refine IsS103.far ?_ zg.out _ | refine IsS103.far ?_ zh.out _) | exact zb.out)⟩, ⟨by repeat (first | (with_reducible first | exact HB.out | apply wA | apply wN | apply wD | refine wS ?_ (IsS103.ge zb.out) | refine wS ?_ zs.out | refine wS ?_ zv.out) | exact HB.out)⟩⟩
    case round =>
     clear H'
     (try clear c1); (try clear c2); (try clear p2); (try clear c3); (try clear c4); (try clear c5); (try clear p6); (try clear c10); (try clear c11); (try clear c15); (try clear c15b0); (try clear c15b1); (try clear c18); (try clear c18b0); (try clear c20); (try clear c22); (try clear c23); (try clear c34); (try clear c34b0); (try clear c34b1); (try clear jb jc jd je jf jg jh ji); (try clear jr js jt ju jv jw jx jy); (try clear jj jk jl jm jn jo jp jq); (try clear jz zaa zab zac zad zae zaf zag); (try clear p2); (try clear p6)
     obtain ⟨yf, yc, zz, yb, zr, zu, rfl, HA, HK1, zf, ze, zc, za, zb, HB⟩ := hrel
     cases gk with
     | zero => exact absurd HA.out (by simp [page_Decode.l1])
     | succ k1 =>
      have H := HA.out
      clear HA
      simp only [page_Decode.l1] at H
      by_cases c37 : yf < t410
      ·rw [if_pos c37] at H
       have c37b0 : decide (yf < t410) = true := decide_eq_true c37
       clear c37
       by_cases c38 : yf > 0
       ·rw [if_pos c38] at H
        have c38b0 : decide (0 < yf) = true := decide_eq_true c38
        clear c38
        replace H := Option.bind_eq_some_iff.mp H
        obtain ⟨⟨t412, t413⟩, A390, H⟩ := H
        replace H : (if zz.length < 8796093022208 then ((num_Reader_Num.f t413 65535).bind fun bt417 => (if yb.length < 17592186044416 then (page_Decode.l1 k1 l0 t396 t410 (IntKind.u64.wrap (yf + 1)) bt417.2 (wrap64 (t393)) (zz ++ [t412]) (yb ++ [wrap64 (bt417.1)]) 0 0 0 0) else (none))) else (none)) = some (r1, r2, r3, r4, r5, r6, r7, r8, r9, r10) := H
        have A39 := Aside0.mk A390
        clear A390
        by_cases c40 : zz.length < 8796093022208
        ·rw [if_pos c40] at H
         have zb0 := Aside0.mk c40
         clear c40
         obtain ⟨y414, yw⟩ : ∃ y_ : List ByteArray, y_ = (zz ++ [t412]) := ⟨_, rfl⟩
         replace H : ((num_Reader_Num.f t413 65535).bind fun bt417 => (if yb.length < 17592186044416 then (page_Decode.l1 k1 l0 t396 t410 (IntKind.u64.wrap (yf + 1)) bt417.2 (wrap64 (t393)) y414 (yb ++ [wrap64 (bt417.1)]) 0 0 0 0) else (none))) = some (r1, r2, r3, r4, r5, r6, r7, r8, r9, r10) := by first | (rw [yw]; with_reducible exact H) | (have H2_ := (Option.bind_some _ _).symm.trans H; rw [yw]; with_reducible exact H2_) | (have H2_ := (Option.bind_some _ _).symm.trans H; with_reducible exact H2_) | with_reducible exact H | (rw [yw]; exact H) | exact H
         have zb1 := Aside0.mk yw
         clear yw
         replace H := Option.bind_eq_some_iff.mp H
         obtain ⟨⟨t417, t418⟩, A410, H⟩ := H
         replace H : (if yb.length < 17592186044416 then (page_Decode.l1 k1 l0 t396 t410 (IntKind.u64.wrap (yf + 1)) t418 (wrap64 (t393)) y414 (yb ++ [wrap64 (t417)]) 0 0 0 0) else (none)) = some (r1, r2, r3, r4, r5, r6, r7, r8, r9, r10) := H
         have A41 := Aside0.mk A410
         clear A410
         by_cases c42 : yb.length < 17592186044416
         ·rw [if_pos c42] at H
          have zb2 := Aside0.mk c42
          clear c42
          obtain ⟨y419, yx⟩ : ∃ y_ : List Int, y_ = (yb ++ [wrap64 (t417)]) := ⟨_, rfl⟩
          replace H : (page_Decode.l1 k1 l0 t396 t410 (IntKind.u64.wrap (yf + 1)) t418 (wrap64 (t393)) y414 y419 0 0 0 0) = some (r1, r2, r3, r4, r5, r6, r7, r8, r9, r10) := by first | (rw [yx]; with_reducible exact H) | (have H2_ := (Option.bind_some _ _).symm.trans H; rw [yx]; with_reducible exact H2_) | (have H2_ := (Option.bind_some _ _).symm.trans H; with_reducible exact H2_) | with_reducible exact H | (rw [yx]; exact H) | exact H
          have zb3 := Aside0.mk yx
          clear yx
          have H' := Aside0.mk H
          clear H
          try go_wp2
          have n0_ := Aside0.mk (Kd.R_drew zf.out)
          have n1_ := Aside0.mk (Kd.R_drew ze.out)
          have n2_ := Aside0.mk (bD zc.out)
          have n3_ := Aside0.mk (bD za.out)
          have n4_ := Aside0.mk (IsS103.drew zb.out)
          have n5_ := Aside0.mk (wD HB.out)
          clear zf ze zc za zb HB
          have zf := n0_
          have ze := n1_
          have zc := n2_
          have za := n3_
          have zb := n4_
          have HB := n5_
          clear n0_ n1_ n2_ n3_ n4_ n5_
          refine start_ (n := 8) (S := fun w' => w'.cell? ⟨zd, 0, none⟩ = some (.int .i64 (wrap64 (t393))) ∧ w'.cell? ⟨zd, 1, none⟩ = some (zr) ∧ w'.cell? ⟨zd, 2, none⟩ = some (.slice none 0 0) ∧ w'.cell? ⟨zd, 3, none⟩ = some (zu) ∧ w'.cell? ⟨zd, 4, none⟩ = some (.int .i64 0) ∧ w'.cell? ⟨zd, 5, none⟩ = some (.int .i64 0) ∧ w'.cell? ⟨zd, 6, none⟩ = some (.int .i64 0) ∧ w'.cell? ⟨zd, 7, none⟩ = some (.int .i64 0)) (ds := [7]) #[false, false, false, false, false, false, false, false] (by kernel_rfl) rfl rfl ⟨(blk_cell za.out 0).trans rfl, (blk_cell za.out 1).trans rfl, (blk_cell za.out 2).trans rfl, (blk_cell za.out 3).trans rfl, (blk_cell za.out 4).trans rfl, (blk_cell za.out 5).trans rfl, (blk_cell za.out 6).trans rfl, (blk_cell za.out 7).trans rfl⟩ (fun hHeld => ?_); refine with_tabW page_Decode.tab16 page_Decode.bits16 (fun HT_ HW_ => ?_)
          generalize wr.drew = w43 at zf ze zc za zb HB hHeld ⊢
          refine pure_ (i := 0) (N := some 50) (v := ?_) (a' := ?_) #[true, false, false, false, false, false, false, false] rfl rfl (any_of HT_.out (by kernel_rfl)) (fun _ _ _ h => h) (Or.inl ⟨by rfl, ?_⟩) ?_ ?_
          rotate_left
          ·intro w'
           go_simp
           with_reducible rfl
          rotate_left
          ·simp only [Act.put, List.setIfInBounds_toArray, List.set_cons_zero, List.set_cons_succ, i64_w, i32_w]
           rfl
          refine pure_ (i := 2) (N := some 52) (v := ?_) (a' := ?_) #[true, false, true, false, false, false, false, false] rfl rfl (any_of HT_.out (by kernel_rfl)) (fun _ _ _ h => h) (Or.inl ⟨by rfl, ?_⟩) ?_ ?_
          rotate_left
          ·intro w'
           go_simp
           with_reducible rfl
          rotate_left
          ·simp only [Act.put, List.setIfInBounds_toArray, List.set_cons_zero, List.set_cons_succ, i64_w, i32_w]
           rfl
          refine take_ (i := 1) (N := some 51) (v := ?_) (a' := ?_) #[true, true, true, false, false, false, false, false] rfl rfl (take_ofW HT_.out HW_.out (by kernel_rfl)) (fun _ _ _ h => h) (Or.inl ⟨by rfl, ?_⟩) hHeld ?_ ?_
          rotate_left
          ·rintro w' ⟨s0, s1, s2, s3, s4, s5, s6, s7⟩
           go_simp
           with_reducible rfl
          rotate_left
          ·simp only [Act.put, List.setIfInBounds_toArray, List.set_cons_zero, List.set_cons_succ, i64_w, i32_w]
           rfl
          refine one_ (i := 3) (N := some 53) #[true, true, true, true, false, false, false, false] rfl rfl (one_of HT_.out (by kernel_rfl)) (by decide) (fun K hK => ?_)
          refine goes_ Try.func50 (by kernel_rfl) rfl #[.pointer (some ⟨g392, 0, none⟩), .int .i64 24] (by rfl) rfl rfl (by (try simp only [List.map_toArray, List.map_cons, List.map_nil]); first | done | rfl | (simp only [List.length_drop, List.length_take]; rfl)) ?_
          with_reducible refine (num_Reader_Text.calls g392 yc 24 t412 t413 w _ ?side1 ?side2 A39.out).mono ?_
          (case side1 => repeat (first | (with_reducible first | exact zb.out | apply IsS103.alloc | apply IsS103.drewN | apply IsS103.drew | apply IsS103.set_0 | refine IsS103.far ?_ zg.out _ | refine IsS103.far ?_ zh.out _) | exact zb.out))
          (case side2 => repeat (first | (with_reducible first | exact HB.out | apply wA | apply wN | apply wD | refine wS ?_ (IsS103.ge zb.out) | refine wS ?_ zs.out | refine wS ?_ zv.out) | exact HB.out))
          rintro e w44 ⟨rfl, hi, hb, hk⟩
          refine ⟨_, rfl, ?_⟩
          have n0_ := Aside0.mk (Kd.R_mono (Kd.R_keep (IsS103.apart (show IsS103 w _ g392 yc from by repeat (first | (with_reducible first | exact zb.out | apply IsS103.alloc | apply IsS103.drewN | apply IsS103.drew | apply IsS103.set_0 | refine IsS103.far ?_ zg.out _ | refine IsS103.far ?_ zh.out _) | exact zb.out)) (by (with_reducible repeat (first | apply Kd.R_alloc | apply Kd.R_drewN | apply Kd.R_drew)); exact zf.out) (by decide)) hk (fun _ h => h.2)) (fun _ h => h.1))
          have n1_ := Aside0.mk (Kd.R_mono (Kd.R_keep (IsS103.apart (show IsS103 w _ g392 yc from by repeat (first | (with_reducible first | exact zb.out | apply IsS103.alloc | apply IsS103.drewN | apply IsS103.drew | apply IsS103.set_0 | refine IsS103.far ?_ zg.out _ | refine IsS103.far ?_ zh.out _) | exact zb.out)) (by (with_reducible repeat (first | apply Kd.R_alloc | apply Kd.R_drewN | apply Kd.R_drew)); exact ze.out) (by decide)) hk (fun _ h => h.2)) (fun _ h => h.1))
          have n2_ := Aside0.mk (KeepBut.blk hk (g' := zj) (o := .cells #[.int .i64 0, .slice none 0 0, .slice none 0 0, .slice none 0 0, .int .i64 0, .int .i64 0, .int .i64 0, .int .i64 0] 27 (0, 0)) (by (with_reducible repeat (first | refine bN ?_ _ | refine bD ?_ | refine bA ?_ _)); exact zc.out) zy.out (by simp))
          have n3_ := Aside0.mk (KeepBut.blk hk (g' := zd) (o := .cells #[.int .i64 (wrap64 (t393)), zr, .slice none 0 0, zu, .int .i64 0, .int .i64 0, .int .i64 0, .int .i64 0] 27 (0, 0)) (by (with_reducible repeat (first | refine bN ?_ _ | refine bD ?_ | refine bA ?_ _)); exact za.out) zw.out (by simp))
          have n4_ := Aside0.mk (hb)
          have n5_ := Aside0.mk (hi)
          clear zf ze zc za HB zb
          have zf := n0_
          have ze := n1_
          have zc := n2_
          have za := n3_
          have HB := n4_
          have zb := n5_
          clear n0_ n1_ n2_ n3_ n4_ n5_
          (try clear hb)
          (try clear hb2)
          (try clear hk)
          (try clear hi)
          refine hK.out _ _ ⟨(blk_cell za.out 0).trans rfl, (blk_cell za.out 1).trans rfl, (blk_cell za.out 2).trans rfl, (blk_cell za.out 3).trans rfl, (blk_cell za.out 4).trans rfl, (blk_cell za.out 5).trans rfl, (blk_cell za.out 6).trans rfl, (blk_cell za.out 7).trans rfl⟩ (fun hHeld => ?_)
          clear hK K
          refine norm_ (a' := ?_) ?_ ?_
          rotate_left
          ·show Act.put _ (some 53) _ = _
           simp only [Act.put, List.setIfInBounds_toArray, List.set_cons_zero, List.set_cons_succ, i64_w, i32_w]
           rfl
          refine one_ (i := 4) (N := some 54) #[true, true, true, true, true, false, false, false] rfl rfl (one_of HT_.out (by kernel_rfl)) (by decide) (fun K hK => ?_)
          refine value_ (w1 := ?_) (v := ?_) (by rfl) rfl ?_ ?_
          rotate_left 2
          ·go_simp
           constructor
           ·rfl
           ·rfl
          refine hK.out _ _ ⟨(blk_cell (bA za.out _) 0).trans rfl, (blk_cell (bA za.out _) 1).trans rfl, (blk_cell (bA za.out _) 2).trans rfl, (blk_cell (bA za.out _) 3).trans rfl, (blk_cell (bA za.out _) 4).trans rfl, (blk_cell (bA za.out _) 5).trans rfl, (blk_cell (bA za.out _) 6).trans rfl, (blk_cell (bA za.out _) 7).trans rfl⟩ (fun hHeld => ?_)
          clear hK K
          refine norm_ (a' := ?_) ?_ ?_
          rotate_left
          ·show Act.put _ (some 54) _ = _
           simp only [Act.put, List.setIfInBounds_toArray, List.set_cons_zero, List.set_cons_succ, i64_w, i32_w]
           rfl
          refine one_ (i := 5) (N := some 55) #[true, true, true, true, true, true, false, false] rfl rfl (one_of HT_.out (by kernel_rfl)) (by decide) (fun K hK => ?_)
          refine Kd.R_append_step Kd.string (w0 := w) w.heap.size (by rfl) (.tmp 51) (.tmp 54) 24 9 (.string ⟨#[]⟩) 16 rfl Try.underlying24 info9 rfl (by decide) (by omega) zr zz t412 [.string t412] (fun _ => True) (fun _ => False) rfl rfl ?aP (fun _ hk => hk.elim) ?aF ?aO ?aB ?aS ?aL ?_
          (case aP => exact rfl)
          (case aB => exact (by repeat (first | (with_reducible first | exact HB.out | apply wA | apply wN | apply wD | refine wS ?_ (IsS103.ge zb.out) | refine wS ?_ zs.out | refine wS ?_ zv.out) | exact HB.out)))
          (case aF => exact (fun _ _ => trivial))
          (case aO => exact (by (with_reducible repeat (first | apply Kd.R_alloc | apply Kd.R_drewN | apply Kd.R_drew)); exact zf.out))
          (case aS => exact (below_size (by repeat (first | (with_reducible first | exact HB.out | apply wA | apply wN | apply wD | refine wS ?_ (IsS103.ge zb.out) | refine wS ?_ zs.out | refine wS ?_ zv.out) | exact HB.out))))
          (case aL => have := zb0.out; omega)
          intro v415 w45 ho hb hg hat
          rw [← zb1.out] at ho
          have n0_ := Aside0.mk (Kd.R_over' (by (with_reducible repeat (first | apply Kd.R_alloc | apply Kd.R_drewN | apply Kd.R_drew)); exact ze.out) (Kd.R_typed (by (with_reducible repeat (first | apply Kd.R_alloc | apply Kd.R_drewN | apply Kd.R_drew)); exact zf.out)) (by decide) hg)
          have n1_ := Aside0.mk (blk_grown (g := zj) (o := .cells #[.int .i64 0, .slice none 0 0, .slice none 0 0, .slice none 0 0, .int .i64 0, .int .i64 0, .int .i64 0, .int .i64 0] 27 (0, 0)) (by (with_reducible repeat (first | refine bN ?_ _ | refine bD ?_ | refine bA ?_ _)); exact zc.out) hg (Kd.R_ne zf.out zc.out (by decide)))
          have n2_ := Aside0.mk (blk_grown (g := zd) (o := .cells #[.int .i64 (wrap64 (t393)), zr, .slice none 0 0, zu, .int .i64 0, .int .i64 0, .int .i64 0, .int .i64 0] 27 (0, 0)) (by (with_reducible repeat (first | refine bN ?_ _ | refine bD ?_ | refine bA ?_ _)); exact za.out) hg (Kd.R_ne zf.out za.out (by decide)))
          have n3_ := Aside0.mk (IsS103.grown (by repeat (first | (with_reducible first | exact zb.out | apply IsS103.alloc | apply IsS103.drewN | apply IsS103.drew | apply IsS103.set_0 | refine IsS103.far ?_ zg.out _ | refine IsS103.far ?_ zh.out _) | exact zb.out)) hg (IsS103.own_ne zb.out zf.out (by decide)))
          have n4_ := Aside0.mk (hb)
          have n5_ := Aside0.mk (ho)
          clear ze zc za zb HB zf
          have ze := n0_
          have zc := n1_
          have za := n2_
          have zb := n3_
          have HB := n4_
          have yj := n5_
          clear n0_ n1_ n2_ n3_ n4_ n5_
          clear ho hb hg hat
          obtain ⟨Ao46, co46, eo46⟩ := Kd.R_slice yj.out
          (first | subst eo46 | (injection eo46 with f1_ f2_ f3_; have f4_ := f1_.symm; have f5_ := f3_.symm; clear f1_ f2_ f3_; subst f4_; subst f5_))
          refine hK.out _ _ ⟨(blk_cell za.out 0).trans rfl, (blk_cell za.out 1).trans rfl, (blk_cell za.out 2).trans rfl, (blk_cell za.out 3).trans rfl, (blk_cell za.out 4).trans rfl, (blk_cell za.out 5).trans rfl, (blk_cell za.out 6).trans rfl, (blk_cell za.out 7).trans rfl⟩ (fun hHeld => ?_)
          clear hK K
          refine norm_ (a' := ?_) ?_ ?_
          rotate_left
          ·show Act.put _ (some 55) _ = _
           simp only [Act.put, List.setIfInBounds_toArray, List.set_cons_zero, List.set_cons_succ, i64_w, i32_w]
           rfl
          refine pure_ (i := 6) (N := some 56) (v := ?_) (a' := ?_) #[true, true, true, true, true, true, true, false] rfl rfl (any_of HT_.out (by kernel_rfl)) (fun _ _ _ h => h) (Or.inl ⟨by rfl, ?_⟩) ?_ ?_
          rotate_left
          ·intro w'
           go_simp
           with_reducible rfl
          rotate_left
          ·simp only [Act.put, List.setIfInBounds_toArray, List.set_cons_zero, List.set_cons_succ, i64_w, i32_w]
           rfl
          refine last_ (i := 7) (N := none) #[true, true, true, true, true, true, true, true] rfl rfl (one_of HT_.out (by kernel_rfl)) (by decide) (fun K hK => ?_)
          have hs47 : w45.cell? ⟨zd, 1, none⟩ = some (zr) := (blk_cell za.out 1).trans rfl
          have zf5 := blk_frozen za.out 1
          have zfe := zt.out
          have zff := ye.out
          refine skip_ (w1 := ?_) (by rfl) rfl ?_ ?_
          rotate_left
          ·go_simp
           rfl
          refine hK.out _ _ ?_
          clear hK K
          refine done_ (done_of HT_.out (by kernel_rfl)) ?_
          try go_wp2
          have n0_ : Aside0 (Kd.R (Kd.int .i64) 3 (w45.setCell ⟨zd, 1, none⟩ (.slice Ao46 y414.length co46)) w.heap.size (fun _ => True) zu yb) := ⟨by (with_reducible repeat (first | apply Kd.R_alloc | apply Kd.R_drewN | apply Kd.R_drew)); exact Kd.R_mono (Kd.R_far (p := ⟨zd, 1, none⟩) (Kd.R_types ze.out za.out (by decide)) (fun _ hk => hk.2) (.slice Ao46 y414.length co46)) (fun _ hk => trivial)⟩
          have n1_ : Aside0 (Kd.R Kd.string 9 (w45.setCell ⟨zd, 1, none⟩ (.slice Ao46 y414.length co46)) w.heap.size (fun _ => True) (.slice Ao46 y414.length co46) y414) := ⟨by (with_reducible repeat (first | apply Kd.R_alloc | apply Kd.R_drewN | apply Kd.R_drew)); exact Kd.R_mono (Kd.R_far (p := ⟨zd, 1, none⟩) (Kd.R_types yj.out za.out (by decide)) (fun _ hk => hk.2) (.slice Ao46 y414.length co46)) (fun _ hk => trivial)⟩
          have n2_ : Aside0 ((w45.setCell ⟨zd, 1, none⟩ (.slice Ao46 y414.length co46)).heap[zj]? = some (.cells #[.int .i64 0, .slice none 0 0, .slice none 0 0, .slice none 0 0, .int .i64 0, .int .i64 0, .int .i64 0, .int .i64 0] 27 (0, 0))) := ⟨by (with_reducible repeat (first | refine bN ?_ _ | refine bD ?_ | refine bA ?_ _)); refine blk_far ?_ zt.out _; (with_reducible repeat (first | refine bN ?_ _ | refine bD ?_ | refine bA ?_ _)); exact zc.out⟩
          have n3_ : Aside0 ((w45.setCell ⟨zd, 1, none⟩ (.slice Ao46 y414.length co46)).heap[zd]? = some (.cells #[.int .i64 (wrap64 (t393)), .slice Ao46 y414.length co46, .slice none 0 0, zu, .int .i64 0, .int .i64 0, .int .i64 0, .int .i64 0] 27 (0, 0))) := ⟨by (with_reducible repeat (first | refine bN ?_ _ | refine bD ?_ | refine bA ?_ _)); refine blk_put (cs := #[.int .i64 (wrap64 (t393)), zr, .slice none 0 0, zu, .int .i64 0, .int .i64 0, .int .i64 0, .int .i64 0]) ?_ 1 _ rfl; (with_reducible repeat (first | refine bN ?_ _ | refine bD ?_ | refine bA ?_ _)); exact za.out⟩
          have n4_ : Aside0 (IsS103 w (w45.setCell ⟨zd, 1, none⟩ (.slice Ao46 y414.length co46)) g392 t413) := ⟨by repeat (first | (with_reducible first | exact zb.out | apply IsS103.alloc | apply IsS103.drewN | apply IsS103.drew | apply IsS103.set_0 | refine IsS103.far ?_ zg.out _ | refine IsS103.far ?_ zh.out _) | exact zb.out)⟩
          have n5_ : Aside0 (Below w.heap.size w (w45.setCell ⟨zd, 1, none⟩ (.slice Ao46 y414.length co46))) := ⟨by repeat (first | (with_reducible first | exact HB.out | apply wA | apply wN | apply wD | refine wS ?_ (IsS103.ge zb.out) | refine wS ?_ zs.out | refine wS ?_ zv.out) | exact HB.out)⟩
          (try clear ze)
          (try clear yj)
          (try clear zc)
          (try clear za)
          (try clear zb)
          (try clear HB)
          generalize (w45.setCell ⟨zd, 1, none⟩ (.slice Ao46 y414.length co46)) = w48 at n0_ n1_ n2_ n3_ n4_ n5_ ⊢
          have ze := n0_
          have yj := n1_
          have zc := n2_
          have za := n3_
          have zb := n4_
          have HB := n5_
          clear n0_ n1_ n2_ n3_ n4_ n5_
          have n0_ := Aside0.mk (Kd.R_drew ze.out)
          have n1_ := Aside0.mk (Kd.R_drew yj.out)
          have n2_ := Aside0.mk (bD zc.out)
          have n3_ := Aside0.mk (bD za.out)
          have n4_ := Aside0.mk (IsS103.drew zb.out)
          have n5_ := Aside0.mk (wD HB.out)
          clear ze yj zc za zb HB
          have ze := n0_
          have yj := n1_
          have zc := n2_
          have za := n3_
          have zb := n4_
          have HB := n5_
          clear n0_ n1_ n2_ n3_ n4_ n5_
          refine start_ (n := 9) (S := fun w' => w'.cell? ⟨zd, 0, none⟩ = some (.int .i64 (wrap64 (t393))) ∧ w'.cell? ⟨zd, 1, none⟩ = some (.slice Ao46 y414.length co46) ∧ w'.cell? ⟨zd, 2, none⟩ = some (.slice none 0 0) ∧ w'.cell? ⟨zd, 3, none⟩ = some (zu) ∧ w'.cell? ⟨zd, 4, none⟩ = some (.int .i64 0) ∧ w'.cell? ⟨zd, 5, none⟩ = some (.int .i64 0) ∧ w'.cell? ⟨zd, 6, none⟩ = some (.int .i64 0) ∧ w'.cell? ⟨zd, 7, none⟩ = some (.int .i64 0)) (ds := [8]) #[false, false, false, false, false, false, false, false, false] (by kernel_rfl) rfl rfl ⟨(blk_cell za.out 0).trans rfl, (blk_cell za.out 1).trans rfl, (blk_cell za.out 2).trans rfl, (blk_cell za.out 3).trans rfl, (blk_cell za.out 4).trans rfl, (blk_cell za.out 5).trans rfl, (blk_cell za.out 6).trans rfl, (blk_cell za.out 7).trans rfl⟩ (fun hHeld => ?_); refine with_tabW page_Decode.tab17 page_Decode.bits17 (fun HT_ HW_ => ?_)
          generalize w48.drew = w49 at ze yj zc za zb HB hHeld ⊢
          refine pure_ (i := 0) (N := some 57) (v := ?_) (a' := ?_) #[true, false, false, false, false, false, false, false, false] rfl rfl (any_of HT_.out (by kernel_rfl)) (fun _ _ _ h => h) (Or.inl ⟨by rfl, ?_⟩) ?_ ?_
          rotate_left
          ·intro w'
           go_simp
           with_reducible rfl
          rotate_left
          ·simp only [Act.put, List.setIfInBounds_toArray, List.set_cons_zero, List.set_cons_succ, i64_w, i32_w]
           rfl
          refine pure_ (i := 2) (N := some 59) (v := ?_) (a' := ?_) #[true, false, true, false, false, false, false, false, false] rfl rfl (any_of HT_.out (by kernel_rfl)) (fun _ _ _ h => h) (Or.inl ⟨by rfl, ?_⟩) ?_ ?_
          rotate_left
          ·intro w'
           go_simp
           with_reducible rfl
          rotate_left
          ·simp only [Act.put, List.setIfInBounds_toArray, List.set_cons_zero, List.set_cons_succ, i64_w, i32_w]
           rfl
          refine take_ (i := 1) (N := some 58) (v := ?_) (a' := ?_) #[true, true, true, false, false, false, false, false, false] rfl rfl (take_ofW HT_.out HW_.out (by kernel_rfl)) (fun _ _ _ h => h) (Or.inl ⟨by rfl, ?_⟩) hHeld ?_ ?_
          rotate_left
          ·rintro w' ⟨s0, s1, s2, s3, s4, s5, s6, s7⟩
           go_simp
           with_reducible rfl
          rotate_left
          ·simp only [Act.put, List.setIfInBounds_toArray, List.set_cons_zero, List.set_cons_succ, i64_w, i32_w]
           rfl
          refine one_ (i := 3) (N := some 60) #[true, true, true, true, false, false, false, false, false] rfl rfl (one_of HT_.out (by kernel_rfl)) (by decide) (fun K hK => ?_)
          refine goes_ Try.func49 (by kernel_rfl) rfl #[.pointer (some ⟨g392, 0, none⟩), .int .u64 65535] (by rfl) rfl rfl (by (try simp only [List.map_toArray, List.map_cons, List.map_nil]); first | done | rfl | (simp only [List.length_drop, List.length_take]; rfl)) ?_
          with_reducible refine (num_Reader_Num.calls g392 t413 65535 t417 t418 w _ ?side1 ?side2 A41.out).mono ?_
          (case side1 => repeat (first | (with_reducible first | exact zb.out | apply IsS103.alloc | apply IsS103.drewN | apply IsS103.drew | apply IsS103.set_0 | refine IsS103.far ?_ zg.out _ | refine IsS103.far ?_ zh.out _) | exact zb.out))
          (case side2 => repeat (first | (with_reducible first | exact HB.out | apply wA | apply wN | apply wD | refine wS ?_ (IsS103.ge zb.out) | refine wS ?_ zs.out | refine wS ?_ zv.out) | exact HB.out))
          rintro e w50 ⟨rfl, hi, hb, hk⟩
          refine ⟨_, rfl, ?_⟩
          have n0_ := Aside0.mk (Kd.R_mono (Kd.R_keep (IsS103.apart (show IsS103 w _ g392 t413 from by repeat (first | (with_reducible first | exact zb.out | apply IsS103.alloc | apply IsS103.drewN | apply IsS103.drew | apply IsS103.set_0 | refine IsS103.far ?_ zg.out _ | refine IsS103.far ?_ zh.out _) | exact zb.out)) (by (with_reducible repeat (first | apply Kd.R_alloc | apply Kd.R_drewN | apply Kd.R_drew)); exact ze.out) (by decide)) hk (fun _ h => h.2)) (fun _ h => h.1))
          have n1_ := Aside0.mk (KeepBut.blk hk (g' := zj) (o := .cells #[.int .i64 0, .slice none 0 0, .slice none 0 0, .slice none 0 0, .int .i64 0, .int .i64 0, .int .i64 0, .int .i64 0] 27 (0, 0)) (by (with_reducible repeat (first | refine bN ?_ _ | refine bD ?_ | refine bA ?_ _)); exact zc.out) zy.out (by simp))
          have n2_ := Aside0.mk (KeepBut.blk hk (g' := zd) (o := .cells #[.int .i64 (wrap64 (t393)), .slice Ao46 y414.length co46, .slice none 0 0, zu, .int .i64 0, .int .i64 0, .int .i64 0, .int .i64 0] 27 (0, 0)) (by (with_reducible repeat (first | refine bN ?_ _ | refine bD ?_ | refine bA ?_ _)); exact za.out) zw.out (by simp))
          have n3_ := Aside0.mk (Kd.R_mono (Kd.R_keep (IsS103.apart (show IsS103 w _ g392 t413 from by repeat (first | (with_reducible first | exact zb.out | apply IsS103.alloc | apply IsS103.drewN | apply IsS103.drew | apply IsS103.set_0 | refine IsS103.far ?_ zg.out _ | refine IsS103.far ?_ zh.out _) | exact zb.out)) (by (with_reducible repeat (first | apply Kd.R_alloc | apply Kd.R_drewN | apply Kd.R_drew)); exact yj.out) (by decide)) hk (fun _ h => h.2)) (fun _ h => h.1))
          have n4_ := Aside0.mk (hb)
          have n5_ := Aside0.mk (hi)
          clear ze zc za yj HB zb
          have ze := n0_
          have zc := n1_
          have za := n2_
          have yj := n3_
          have HB := n4_
          have zb := n5_
          clear n0_ n1_ n2_ n3_ n4_ n5_
          (try clear hb)
          (try clear hb2)
          (try clear hk)
          (try clear hi)
          refine hK.out _ _ ⟨(blk_cell za.out 0).trans rfl, (blk_cell za.out 1).trans rfl, (blk_cell za.out 2).trans rfl, (blk_cell za.out 3).trans rfl, (blk_cell za.out 4).trans rfl, (blk_cell za.out 5).trans rfl, (blk_cell za.out 6).trans rfl, (blk_cell za.out 7).trans rfl⟩ (fun hHeld => ?_)
          clear hK K
          refine norm_ (a' := ?_) ?_ ?_
          rotate_left
          ·show Act.put _ (some 60) _ = _
           simp only [Act.put, List.setIfInBounds_toArray, List.set_cons_zero, List.set_cons_succ, i64_w, i32_w]
           rfl
          refine pure_ (i := 4) (N := some 61) (v := ?_) (a' := ?_) #[true, true, true, true, true, false, false, false, false] rfl rfl (any_of HT_.out (by kernel_rfl)) (fun _ _ _ h => h) (Or.inl ⟨by rfl, ?_⟩) ?_ ?_
          rotate_left
          ·intro w'
           go_simp
           with_reducible rfl
          rotate_left
          ·simp only [Act.put, List.setIfInBounds_toArray, List.set_cons_zero, List.set_cons_succ, i64_w, i32_w]
           rfl
          refine one_ (i := 5) (N := some 62) #[true, true, true, true, true, true, false, false, false] rfl rfl (one_of HT_.out (by kernel_rfl)) (by decide) (fun K hK => ?_)
          refine value_ (w1 := ?_) (v := ?_) (by rfl) rfl ?_ ?_
          rotate_left 2
          ·go_simp
           constructor
           ·rfl
           ·rfl
          refine hK.out _ _ ⟨(blk_cell (bA za.out _) 0).trans rfl, (blk_cell (bA za.out _) 1).trans rfl, (blk_cell (bA za.out _) 2).trans rfl, (blk_cell (bA za.out _) 3).trans rfl, (blk_cell (bA za.out _) 4).trans rfl, (blk_cell (bA za.out _) 5).trans rfl, (blk_cell (bA za.out _) 6).trans rfl, (blk_cell (bA za.out _) 7).trans rfl⟩ (fun hHeld => ?_)
          clear hK K
          refine norm_ (a' := ?_) ?_ ?_
          rotate_left
          ·show Act.put _ (some 62) _ = _
           simp only [Act.put, List.setIfInBounds_toArray, List.set_cons_zero, List.set_cons_succ, i64_w, i32_w]
           rfl
          refine one_ (i := 6) (N := some 63) #[true, true, true, true, true, true, true, false, false] rfl rfl (one_of HT_.out (by kernel_rfl)) (by decide) (fun K hK => ?_)
          refine Kd.R_append_step (Kd.int .i64) (w0 := w) w.heap.size (by rfl) (.tmp 58) (.tmp 62) 25 3 (.int .i64 0) 8 rfl Try.underlying25 info3 rfl (by decide) (by omega) zu yb (wrap64 (t417)) [.int .i64 (wrap64 (t417))] (fun _ => True) (fun _ => False) rfl rfl ?aP (fun _ hk => hk.elim) ?aF ?aO ?aB ?aS ?aL ?_
          (case aP => exact rfl)
          (case aB => exact (by repeat (first | (with_reducible first | exact HB.out | apply wA | apply wN | apply wD | refine wS ?_ (IsS103.ge zb.out) | refine wS ?_ zs.out | refine wS ?_ zv.out) | exact HB.out)))
          (case aF => exact (fun _ _ => trivial))
          (case aO => exact (by (with_reducible repeat (first | apply Kd.R_alloc | apply Kd.R_drewN | apply Kd.R_drew)); exact ze.out))
          (case aS => exact (below_size (by repeat (first | (with_reducible first | exact HB.out | apply wA | apply wN | apply wD | refine wS ?_ (IsS103.ge zb.out) | refine wS ?_ zs.out | refine wS ?_ zv.out) | exact HB.out))))
          (case aL => have := zb2.out; omega)
          intro v420 w51 ho hb hg hat
          rw [← zb3.out] at ho
          have n0_ := Aside0.mk (blk_grown (g := zj) (o := .cells #[.int .i64 0, .slice none 0 0, .slice none 0 0, .slice none 0 0, .int .i64 0, .int .i64 0, .int .i64 0, .int .i64 0] 27 (0, 0)) (by (with_reducible repeat (first | refine bN ?_ _ | refine bD ?_ | refine bA ?_ _)); exact zc.out) hg (Kd.R_ne ze.out zc.out (by decide)))
          have n1_ := Aside0.mk (blk_grown (g := zd) (o := .cells #[.int .i64 (wrap64 (t393)), .slice Ao46 y414.length co46, .slice none 0 0, zu, .int .i64 0, .int .i64 0, .int .i64 0, .int .i64 0] 27 (0, 0)) (by (with_reducible repeat (first | refine bN ?_ _ | refine bD ?_ | refine bA ?_ _)); exact za.out) hg (Kd.R_ne ze.out za.out (by decide)))
          have n2_ := Aside0.mk (IsS103.grown (by repeat (first | (with_reducible first | exact zb.out | apply IsS103.alloc | apply IsS103.drewN | apply IsS103.drew | apply IsS103.set_0 | refine IsS103.far ?_ zg.out _ | refine IsS103.far ?_ zh.out _) | exact zb.out)) hg (IsS103.own_ne zb.out ze.out (by decide)))
          have n3_ := Aside0.mk (Kd.R_over' (by (with_reducible repeat (first | apply Kd.R_alloc | apply Kd.R_drewN | apply Kd.R_drew)); exact yj.out) (Kd.R_typed (by (with_reducible repeat (first | apply Kd.R_alloc | apply Kd.R_drewN | apply Kd.R_drew)); exact ze.out)) (by decide) hg)
          have n4_ := Aside0.mk (hb)
          have n5_ := Aside0.mk (ho)
          clear zc za zb yj HB ze
          have zc := n0_
          have za := n1_
          have zb := n2_
          have yj := n3_
          have HB := n4_
          have zai := n5_
          clear n0_ n1_ n2_ n3_ n4_ n5_
          clear ho hb hg hat
          obtain ⟨Ao52, co52, eo52⟩ := Kd.R_slice zai.out
          (first | subst eo52 | (injection eo52 with f1_ f2_ f3_; have f4_ := f1_.symm; have f5_ := f3_.symm; clear f1_ f2_ f3_; subst f4_; subst f5_))
          refine hK.out _ _ ⟨(blk_cell za.out 0).trans rfl, (blk_cell za.out 1).trans rfl, (blk_cell za.out 2).trans rfl, (blk_cell za.out 3).trans rfl, (blk_cell za.out 4).trans rfl, (blk_cell za.out 5).trans rfl, (blk_cell za.out 6).trans rfl, (blk_cell za.out 7).trans rfl⟩ (fun hHeld => ?_)
          clear hK K
          refine norm_ (a' := ?_) ?_ ?_
          rotate_left
          ·show Act.put _ (some 63) _ = _
           simp only [Act.put, List.setIfInBounds_toArray, List.set_cons_zero, List.set_cons_succ, i64_w, i32_w]
           rfl
          refine pure_ (i := 7) (N := some 64) (v := ?_) (a' := ?_) #[true, true, true, true, true, true, true, true, false] rfl rfl (any_of HT_.out (by kernel_rfl)) (fun _ _ _ h => h) (Or.inl ⟨by rfl, ?_⟩) ?_ ?_
          rotate_left
          ·intro w'
           go_simp
           with_reducible rfl
          rotate_left
          ·simp only [Act.put, List.setIfInBounds_toArray, List.set_cons_zero, List.set_cons_succ, i64_w, i32_w]
           rfl
          refine last_ (i := 8) (N := none) #[true, true, true, true, true, true, true, true, true] rfl rfl (one_of HT_.out (by kernel_rfl)) (by decide) (fun K hK => ?_)
          have hs53 : w51.cell? ⟨zd, 3, none⟩ = some (zu) := (blk_cell za.out 3).trans rfl
          have zf6 := blk_frozen za.out 3
          have zfg := zt.out
          have zfh := ye.out
          refine skip_ (w1 := ?_) (by rfl) rfl ?_ ?_
          rotate_left
          ·go_simp
           rfl
          refine hK.out _ _ ?_
          clear hK K
          refine done_ (done_of HT_.out (by kernel_rfl)) ?_
          try go_wp2
          go_roundg k1
          case measure => have := HK1.out; omega
          case rel => exact ⟨(IntKind.u64.wrap (yf + 1)), (t418), (y414), (y419), (.slice Ao46 y414.length co46), (.slice Ao52 y419.length co52), (by first | rfl | (simp; done) | (simp [*]; done)), H', ⟨by have := HK1.out; omega⟩, ⟨by (with_reducible repeat (first | apply Kd.R_alloc | apply Kd.R_drewN | apply Kd.R_drew)); exact Kd.R_mono (Kd.R_far (p := ⟨zd, 3, none⟩) (Kd.R_types yj.out za.out (by decide)) (fun _ hk => hk.2) (.slice Ao52 y419.length co52)) (fun _ hk => trivial)⟩, ⟨by (with_reducible repeat (first | apply Kd.R_alloc | apply Kd.R_drewN | apply Kd.R_drew)); exact Kd.R_mono (Kd.R_far (p := ⟨zd, 3, none⟩) (Kd.R_types zai.out za.out (by decide)) (fun _ hk => hk.2) (.slice Ao52 y419.length co52)) (fun _ hk => trivial)⟩, ⟨by (with_reducible repeat (first | refine bN ?_ _ | refine bD ?_ | refine bA ?_ _)); refine blk_far ?_ zt.out _; (with_reducible repeat (first | refine bN ?_ _ | refine bD ?_ | refine bA ?_ _)); exact zc.out⟩, ⟨by (with_reducible repeat (first | refine bN ?_ _ | refine bD ?_ | refine bA ?_ _)); refine blk_put (cs := #[.int .i64 (wrap64 (t393)), .slice Ao46 y414.length co46, .slice none 0 0, zu, .int .i64 0, .int .i64 0, .int .i64 0, .int .i64 0]) ?_ 3 _ rfl; (with_reducible repeat (first | refine bN ?_ _ | refine bD ?_ | refine bA ?_ _)); exact za.out⟩, ⟨by repeat (first | (with_reducible first | exact zb.out | apply IsS103.alloc | apply IsS103.drewN | apply IsS103.drew | apply IsS103.set_0 | refine IsS103.far ?_ zg.out _ | refine IsS103.far ?_ zh.out _) | exact zb.out)⟩, ⟨by repeat (first | (with_reducible first | exact HB.out | apply wA | apply wN | apply wD | refine wS ?_ (IsS103.ge zb.out) | refine wS ?_ zs.out | refine wS ?_ zv.out) | exact HB.out)⟩⟩
         ·rw [if_neg c42] at H
          exact absurd H (by simp)
        ·rw [if_neg c40] at H
         exact absurd H (by simp)
       ·rw [if_neg c38] at H
        have c38b0 : decide (0 < yf) = false := decide_eq_false c38
        clear c38
        replace H := Option.bind_eq_some_iff.mp H
        obtain ⟨⟨t422, t423⟩, A540, H⟩ := H
        replace H : (if yb.length < 17592186044416 then (page_Decode.l1 k1 l0 t396 t410 (IntKind.u64.wrap (yf + 1)) t423 (wrap64 (t393)) zz (yb ++ [wrap64 (t422)]) 0 0 0 0) else (none)) = some (r1, r2, r3, r4, r5, r6, r7, r8, r9, r10) := H
        have A54 := Aside0.mk A540
        clear A540
        by_cases c55 : yb.length < 17592186044416
        ·rw [if_pos c55] at H
         have zb4 := Aside0.mk c55
         clear c55
         obtain ⟨y424, yy⟩ : ∃ y_ : List Int, y_ = (yb ++ [wrap64 (t422)]) := ⟨_, rfl⟩
         replace H : (page_Decode.l1 k1 l0 t396 t410 (IntKind.u64.wrap (yf + 1)) t423 (wrap64 (t393)) zz y424 0 0 0 0) = some (r1, r2, r3, r4, r5, r6, r7, r8, r9, r10) := by first | (rw [yy]; with_reducible exact H) | (have H2_ := (Option.bind_some _ _).symm.trans H; rw [yy]; with_reducible exact H2_) | (have H2_ := (Option.bind_some _ _).symm.trans H; with_reducible exact H2_) | with_reducible exact H | (rw [yy]; exact H) | exact H
         have zb5 := Aside0.mk yy
         clear yy
         have H' := Aside0.mk H
         clear H
         try go_wp2
         have n0_ := Aside0.mk (Kd.R_drew zf.out)
         have n1_ := Aside0.mk (Kd.R_drew ze.out)
         have n2_ := Aside0.mk (bD zc.out)
         have n3_ := Aside0.mk (bD za.out)
         have n4_ := Aside0.mk (IsS103.drew zb.out)
         have n5_ := Aside0.mk (wD HB.out)
         clear zf ze zc za zb HB
         have zf := n0_
         have ze := n1_
         have zc := n2_
         have za := n3_
         have zb := n4_
         have HB := n5_
         clear n0_ n1_ n2_ n3_ n4_ n5_
         refine start_ (n := 9) (S := fun w' => w'.cell? ⟨zd, 0, none⟩ = some (.int .i64 (wrap64 (t393))) ∧ w'.cell? ⟨zd, 1, none⟩ = some (zr) ∧ w'.cell? ⟨zd, 2, none⟩ = some (.slice none 0 0) ∧ w'.cell? ⟨zd, 3, none⟩ = some (zu) ∧ w'.cell? ⟨zd, 4, none⟩ = some (.int .i64 0) ∧ w'.cell? ⟨zd, 5, none⟩ = some (.int .i64 0) ∧ w'.cell? ⟨zd, 6, none⟩ = some (.int .i64 0) ∧ w'.cell? ⟨zd, 7, none⟩ = some (.int .i64 0)) (ds := [8]) #[false, false, false, false, false, false, false, false, false] (by kernel_rfl) rfl rfl ⟨(blk_cell za.out 0).trans rfl, (blk_cell za.out 1).trans rfl, (blk_cell za.out 2).trans rfl, (blk_cell za.out 3).trans rfl, (blk_cell za.out 4).trans rfl, (blk_cell za.out 5).trans rfl, (blk_cell za.out 6).trans rfl, (blk_cell za.out 7).trans rfl⟩ (fun hHeld => ?_); refine with_tabW page_Decode.tab17 page_Decode.bits17 (fun HT_ HW_ => ?_)
         generalize wr.drew = w56 at zf ze zc za zb HB hHeld ⊢
         refine pure_ (i := 0) (N := some 57) (v := ?_) (a' := ?_) #[true, false, false, false, false, false, false, false, false] rfl rfl (any_of HT_.out (by kernel_rfl)) (fun _ _ _ h => h) (Or.inl ⟨by rfl, ?_⟩) ?_ ?_
         rotate_left
         ·intro w'
          go_simp
          with_reducible rfl
         rotate_left
         ·simp only [Act.put, List.setIfInBounds_toArray, List.set_cons_zero, List.set_cons_succ, i64_w, i32_w]
          rfl
         refine pure_ (i := 2) (N := some 59) (v := ?_) (a' := ?_) #[true, false, true, false, false, false, false, false, false] rfl rfl (any_of HT_.out (by kernel_rfl)) (fun _ _ _ h => h) (Or.inl ⟨by rfl, ?_⟩) ?_ ?_
         rotate_left
         ·intro w'
          go_simp
          with_reducible rfl
         rotate_left
         ·simp only [Act.put, List.setIfInBounds_toArray, List.set_cons_zero, List.set_cons_succ, i64_w, i32_w]
          rfl
         refine take_ (i := 1) (N := some 58) (v := ?_) (a' := ?_) #[true, true, true, false, false, false, false, false, false] rfl rfl (take_ofW HT_.out HW_.out (by kernel_rfl)) (fun _ _ _ h => h) (Or.inl ⟨by rfl, ?_⟩) hHeld ?_ ?_
         rotate_left
         ·rintro w' ⟨s0, s1, s2, s3, s4, s5, s6, s7⟩
          go_simp
          with_reducible rfl
         rotate_left
         ·simp only [Act.put, List.setIfInBounds_toArray, List.set_cons_zero, List.set_cons_succ, i64_w, i32_w]
          rfl
         refine one_ (i := 3) (N := some 60) #[true, true, true, true, false, false, false, false, false] rfl rfl (one_of HT_.out (by kernel_rfl)) (by decide) (fun K hK => ?_)
         refine goes_ Try.func49 (by kernel_rfl) rfl #[.pointer (some ⟨g392, 0, none⟩), .int .u64 65535] (by rfl) rfl rfl (by (try simp only [List.map_toArray, List.map_cons, List.map_nil]); first | done | rfl | (simp only [List.length_drop, List.length_take]; rfl)) ?_
         with_reducible refine (num_Reader_Num.calls g392 yc 65535 t422 t423 w _ ?side1 ?side2 A54.out).mono ?_
         (case side1 => repeat (first | (with_reducible first | exact zb.out | apply IsS103.alloc | apply IsS103.drewN | apply IsS103.drew | apply IsS103.set_0 | refine IsS103.far ?_ zg.out _ | refine IsS103.far ?_ zh.out _) | exact zb.out))
         (case side2 => repeat (first | (with_reducible first | exact HB.out | apply wA | apply wN | apply wD | refine wS ?_ (IsS103.ge zb.out) | refine wS ?_ zs.out | refine wS ?_ zv.out) | exact HB.out))
         rintro e w57 ⟨rfl, hi, hb, hk⟩
         refine ⟨_, rfl, ?_⟩
         have n0_ := Aside0.mk (Kd.R_mono (Kd.R_keep (IsS103.apart (show IsS103 w _ g392 yc from by repeat (first | (with_reducible first | exact zb.out | apply IsS103.alloc | apply IsS103.drewN | apply IsS103.drew | apply IsS103.set_0 | refine IsS103.far ?_ zg.out _ | refine IsS103.far ?_ zh.out _) | exact zb.out)) (by (with_reducible repeat (first | apply Kd.R_alloc | apply Kd.R_drewN | apply Kd.R_drew)); exact zf.out) (by decide)) hk (fun _ h => h.2)) (fun _ h => h.1))
         have n1_ := Aside0.mk (Kd.R_mono (Kd.R_keep (IsS103.apart (show IsS103 w _ g392 yc from by repeat (first | (with_reducible first | exact zb.out | apply IsS103.alloc | apply IsS103.drewN | apply IsS103.drew | apply IsS103.set_0 | refine IsS103.far ?_ zg.out _ | refine IsS103.far ?_ zh.out _) | exact zb.out)) (by (with_reducible repeat (first | apply Kd.R_alloc | apply Kd.R_drewN | apply Kd.R_drew)); exact ze.out) (by decide)) hk (fun _ h => h.2)) (fun _ h => h.1))
         have n2_ := Aside0.mk (KeepBut.blk hk (g' := zj) (o := .cells #[.int .i64 0, .slice none 0 0, .slice none 0 0, .slice none 0 0, .int .i64 0, .int .i64 0, .int .i64 0, .int .i64 0] 27 (0, 0)) (by (with_reducible repeat (first | refine bN ?_ _ | refine bD ?_ | refine bA ?_ _)); exact zc.out) zy.out (by simp))
         have n3_ := Aside0.mk (KeepBut.blk hk (g' := zd) (o := .cells #[.int .i64 (wrap64 (t393)), zr, .slice none 0 0, zu, .int .i64 0, .int .i64 0, .int .i64 0, .int .i64 0] 27 (0, 0)) (by (with_reducible repeat (first | refine bN ?_ _ | refine bD ?_ | refine bA ?_ _)); exact za.out) zw.out (by simp))
         have n4_ := Aside0.mk (hb)
         have n5_ := Aside0.mk (hi)
         clear zf ze zc za HB zb
         have zf := n0_
         have ze := n1_
         have zc := n2_
         have za := n3_
         have HB := n4_
         have zb := n5_
         clear n0_ n1_ n2_ n3_ n4_ n5_
         (try clear hb)
         (try clear hb2)
         (try clear hk)
         (try clear hi)
         refine hK.out _ _ ⟨(blk_cell za.out 0).trans rfl, (blk_cell za.out 1).trans rfl, (blk_cell za.out 2).trans rfl, (blk_cell za.out 3).trans rfl, (blk_cell za.out 4).trans rfl, (blk_cell za.out 5).trans rfl, (blk_cell za.out 6).trans rfl, (blk_cell za.out 7).trans rfl⟩ (fun hHeld => ?_)
         clear hK K
         refine norm_ (a' := ?_) ?_ ?_
         rotate_left
         ·show Act.put _ (some 60) _ = _
          simp only [Act.put, List.setIfInBounds_toArray, List.set_cons_zero, List.set_cons_succ, i64_w, i32_w]
          rfl
         refine pure_ (i := 4) (N := some 61) (v := ?_) (a' := ?_) #[true, true, true, true, true, false, false, false, false] rfl rfl (any_of HT_.out (by kernel_rfl)) (fun _ _ _ h => h) (Or.inl ⟨by rfl, ?_⟩) ?_ ?_
         rotate_left
         ·intro w'
          go_simp
          with_reducible rfl
         rotate_left
         ·simp only [Act.put, List.setIfInBounds_toArray, List.set_cons_zero, List.set_cons_succ, i64_w, i32_w]
          rfl
         refine one_ (i := 5) (N := some 62) #[true, true, true, true, true, true, false, false, false] rfl rfl (one_of HT_.out (by kernel_rfl)) (by decide) (fun K hK => ?_)
         refine value_ (w1 := ?_) (v := ?_) (by rfl) rfl ?_ ?_
         rotate_left 2
         ·go_simp
          constructor
          ·rfl
          ·rfl
         refine hK.out _ _ ⟨(blk_cell (bA za.out _) 0).trans rfl, (blk_cell (bA za.out _) 1).trans rfl, (blk_cell (bA za.out _) 2).trans rfl, (blk_cell (bA za.out _) 3).trans rfl, (blk_cell (bA za.out _) 4).trans rfl, (blk_cell (bA za.out _) 5).trans rfl, (blk_cell (bA za.out _) 6).trans rfl, (blk_cell (bA za.out _) 7).trans rfl⟩ (fun hHeld => ?_)
         clear hK K
         refine norm_ (a' := ?_) ?_ ?_
         rotate_left
         ·show Act.put _ (some 62) _ = _
          simp only [Act.put, List.setIfInBounds_toArray, List.set_cons_zero, List.set_cons_succ, i64_w, i32_w]
          rfl
         refine one_ (i := 6) (N := some 63) #[true, true, true, true, true, true, true, false, false] rfl rfl (one_of HT_.out (by kernel_rfl)) (by decide) (fun K hK => ?_)
         refine Kd.R_append_step (Kd.int .i64) (w0 := w) w.heap.size (by rfl) (.tmp 58) (.tmp 62) 25 3 (.int .i64 0) 8 rfl Try.underlying25 info3 rfl (by decide) (by omega) zu yb (wrap64 (t422)) [.int .i64 (wrap64 (t422))] (fun _ => True) (fun _ => False) rfl rfl ?aP (fun _ hk => hk.elim) ?aF ?aO ?aB ?aS ?aL ?_
         (case aP => exact rfl)
         (case aB => exact (by repeat (first | (with_reducible first | exact HB.out | apply wA | apply wN | apply wD | refine wS ?_ (IsS103.ge zb.out) | refine wS ?_ zs.out | refine wS ?_ zv.out) | exact HB.out)))
         (case aF => exact (fun _ _ => trivial))
         (case aO => exact (by (with_reducible repeat (first | apply Kd.R_alloc | apply Kd.R_drewN | apply Kd.R_drew)); exact ze.out))
         (case aS => exact (below_size (by repeat (first | (with_reducible first | exact HB.out | apply wA | apply wN | apply wD | refine wS ?_ (IsS103.ge zb.out) | refine wS ?_ zs.out | refine wS ?_ zv.out) | exact HB.out))))
         (case aL => have := zb4.out; omega)
         intro v425 w58 ho hb hg hat
         rw [← zb5.out] at ho
         have n0_ := Aside0.mk (Kd.R_over' (by (with_reducible repeat (first | apply Kd.R_alloc | apply Kd.R_drewN | apply Kd.R_drew)); exact zf.out) (Kd.R_typed (by (with_reducible repeat (first | apply Kd.R_alloc | apply Kd.R_drewN | apply Kd.R_drew)); exact ze.out)) (by decide) hg)
         have n1_ := Aside0.mk (blk_grown (g := zj) (o := .cells #[.int .i64 0, .slice none 0 0, .slice none 0 0, .slice none 0 0, .int .i64 0, .int .i64 0, .int .i64 0, .int .i64 0] 27 (0, 0)) (by (with_reducible repeat (first | refine bN ?_ _ | refine bD ?_ | refine bA ?_ _)); exact zc.out) hg (Kd.R_ne ze.out zc.out (by decide)))
         have n2_ := Aside0.mk (blk_grown (g := zd) (o := .cells #[.int .i64 (wrap64 (t393)), zr, .slice none 0 0, zu, .int .i64 0, .int .i64 0, .int .i64 0, .int .i64 0] 27 (0, 0)) (by (with_reducible repeat (first | refine bN ?_ _ | refine bD ?_ | refine bA ?_ _)); exact za.out) hg (Kd.R_ne ze.out za.out (by decide)))
         have n3_ := Aside0.mk (IsS103.grown (by repeat (first | (with_reducible first | exact zb.out | apply IsS103.alloc | apply IsS103.drewN | apply IsS103.drew | apply IsS103.set_0 | refine IsS103.far ?_ zg.out _ | refine IsS103.far ?_ zh.out _) | exact zb.out)) hg (IsS103.own_ne zb.out ze.out (by decide)))
         have n4_ := Aside0.mk (hb)
         have n5_ := Aside0.mk (ho)
         clear zf zc za zb HB ze
         have zf := n0_
         have zc := n1_
         have za := n2_
         have zb := n3_
         have HB := n4_
         have zaj := n5_
         clear n0_ n1_ n2_ n3_ n4_ n5_
         clear ho hb hg hat
         obtain ⟨Ao59, co59, eo59⟩ := Kd.R_slice zaj.out
         (first | subst eo59 | (injection eo59 with f1_ f2_ f3_; have f4_ := f1_.symm; have f5_ := f3_.symm; clear f1_ f2_ f3_; subst f4_; subst f5_))
         refine hK.out _ _ ⟨(blk_cell za.out 0).trans rfl, (blk_cell za.out 1).trans rfl, (blk_cell za.out 2).trans rfl, (blk_cell za.out 3).trans rfl, (blk_cell za.out 4).trans rfl, (blk_cell za.out 5).trans rfl, (blk_cell za.out 6).trans rfl, (blk_cell za.out 7).trans rfl⟩ (fun hHeld => ?_)
         clear hK K
         refine norm_ (a' := ?_) ?_ ?_
         rotate_left
         ·show Act.put _ (some 63) _ = _
          simp only [Act.put, List.setIfInBounds_toArray, List.set_cons_zero, List.set_cons_succ, i64_w, i32_w]
          rfl
         refine pure_ (i := 7) (N := some 64) (v := ?_) (a' := ?_) #[true, true, true, true, true, true, true, true, false] rfl rfl (any_of HT_.out (by kernel_rfl)) (fun _ _ _ h => h) (Or.inl ⟨by rfl, ?_⟩) ?_ ?_
         rotate_left
         ·intro w'
          go_simp
          with_reducible rfl
         rotate_left
         ·simp only [Act.put, List.setIfInBounds_toArray, List.set_cons_zero, List.set_cons_succ, i64_w, i32_w]
          rfl
         refine last_ (i := 8) (N := none) #[true, true, true, true, true, true, true, true, true] rfl rfl (one_of HT_.out (by kernel_rfl)) (by decide) (fun K hK => ?_)
         have hs60 : w58.cell? ⟨zd, 3, none⟩ = some (zu) := (blk_cell za.out 3).trans rfl
         have zf7 := blk_frozen za.out 3
         have zfi := zt.out
         have zfj := ye.out
         refine skip_ (w1 := ?_) (by rfl) rfl ?_ ?_
         rotate_left
         ·go_simp
          rfl
         refine hK.out _ _ ?_
         clear hK K
         refine done_ (done_of HT_.out (by kernel_rfl)) ?_
         try go_wp2
         go_roundg k1
         case measure => have := HK1.out; omega
         case rel => exact ⟨(IntKind.u64.wrap (yf + 1)), (t423), (zz), (y424), (zr), (.slice Ao59 y424.length co59), (by first | rfl | (simp; done) | (simp [*]; done)), H', ⟨by have := HK1.out; omega⟩, ⟨by (with_reducible repeat (first | apply Kd.R_alloc | apply Kd.R_drewN | apply Kd.R_drew)); exact Kd.R_mono (Kd.R_far (p := ⟨zd, 3, none⟩) (Kd.R_types zf.out za.out (by decide)) (fun _ hk => hk.2) (.slice Ao59 y424.length co59)) (fun _ hk => trivial)⟩, ⟨by (with_reducible repeat (first | apply Kd.R_alloc | apply Kd.R_drewN | apply Kd.R_drew)); exact Kd.R_mono (Kd.R_far (p := ⟨zd, 3, none⟩) (Kd.R_types zaj.out za.out (by decide)) (fun _ hk => hk.2) (.slice Ao59 y424.length co59)) (fun _ hk => trivial)⟩, ⟨by (with_reducible repeat (first | refine bN ?_ _ | refine bD ?_ | refine bA ?_ _)); refine blk_far ?_ zt.out _; (with_reducible repeat (first | refine bN ?_ _ | refine bD ?_ | refine bA ?_ _)); exact zc.out⟩, ⟨by (with_reducible repeat (first | refine bN ?_ _ | refine bD ?_ | refine bA ?_ _)); refine blk_put (cs := #[.int .i64 (wrap64 (t393)), zr, .slice none 0 0, zu, .int .i64 0, .int .i64 0, .int .i64 0, .int .i64 0]) ?_ 3 _ rfl; (with_reducible repeat (first | refine bN ?_ _ | refine bD ?_ | refine bA ?_ _)); exact za.out⟩, ⟨by repeat (first | (with_reducible first | exact zb.out | apply IsS103.alloc | apply IsS103.drewN | apply IsS103.drew | apply IsS103.set_0 | refine IsS103.far ?_ zg.out _ | refine IsS103.far ?_ zh.out _) | exact zb.out)⟩, ⟨by repeat (first | (with_reducible first | exact HB.out | apply wA | apply wN | apply wD | refine wS ?_ (IsS103.ge zb.out) | refine wS ?_ zs.out | refine wS ?_ zv.out) | exact HB.out)⟩⟩
        ·rw [if_neg c55] at H
         exact absurd H (by simp)
      ·rw [if_neg c37] at H
       have c37b0 : decide (yf < t410) = false := decide_eq_false c37
       clear c37
       have H' := Aside0.mk H
       clear H
       go_wp2
       go_meet
       case rel => exact ⟨_, (yc), (zz), (([] : List ByteArray)), (yb), (0), (0), (0), (0), (zr), (.slice none 0 0), (zu), H', ⟨by have := HK1.out; first | omega | exact Nat.le_refl _⟩, ⟨by (with_reducible repeat (first | apply Kd.R_alloc | apply Kd.R_drewN | apply Kd.R_drew)); exact Kd.R_mono zf.out (fun _ hk => (by simp [Value.ownBlock]))⟩, ⟨by first | exact Kd.R_nil _ _ _ _ _ | exact Kd.N_nil _ _ _ _ _ | exact Kd.V_nil _ _ _ _ _ | exact Kd.Q_nil _ _ _ _ _ | exact Kd.S_nil _ _ _ _ _⟩, ⟨by (with_reducible repeat (first | apply Kd.R_alloc | apply Kd.R_drewN | apply Kd.R_drew)); exact ze.out⟩, ⟨by (with_reducible repeat (first | refine bN ?_ _ | refine bD ?_ | refine bA ?_ _)); exact zc.out⟩, ⟨by (with_reducible repeat (first | refine bN ?_ _ | refine bD ?_ | refine bA ?_ _)); exact za.out⟩, ⟨by repeat (first | (with_reducible first | exact zb.out | apply IsS103.alloc | apply IsS103.drewN | apply IsS103.drew | apply IsS103.set_0 | refine IsS103.far ?_ zg.out _ | refine IsS103.far ?_ zh.out _) | exact zb.out)⟩, ⟨by repeat (first | (with_reducible first | exact HB.out | apply wA | apply wN | apply wD | refine wS ?_ (IsS103.ge zb.out) | refine wS ?_ zs.out | refine wS ?_ zv.out) | exact HB.out)⟩⟩
   ·rw [if_neg c34] at H
    have c34b0 : ((wrap64 (t393)) == 2) = false := beq_eq_false_iff_ne.mpr c34
    have c34b1 : ((wrap64 (t393)) != 2) = true := bne_iff_ne.mpr c34
    by_cases c61 : (wrap64 (t393)) = 3
    ·rw [if_pos c61] at H
     have c61b0 : ((wrap64 (t393)) == 3) = true := beq_iff_eq.mpr c61
     have c61b1 : ((wrap64 (t393)) != 3) = false := bne_eq_false_iff_eq.mpr c61
     clear c61
     replace H := Option.bind_eq_some_iff.mp H
     obtain ⟨⟨t427, t428⟩, A620, H⟩ := H
     replace H : ((num_Reader_Num.f t428 65535).bind fun bt429 => ((num_Reader_Num.f bt429.2 65536).bind fun bt431 => ((num_Reader_Num.f bt431.2 65536).bind fun bt433 => (page_Decode.j2 k l0 t396 bt433.2 (wrap64 (t393)) ([] : List ByteArray) ([] : List ByteArray) ([] : List Int) (wrap64 (t427)) (wrap64 (bt429.1)) (wrap64 (bt431.1)) (wrap64 (bt433.1)))))) = some (r1, r2, r3, r4, r5, r6, r7, r8, r9, r10) := H
     have A62 := Aside0.mk A620
     clear A620
     replace H := Option.bind_eq_some_iff.mp H
     obtain ⟨⟨t429, t430⟩, A630, H⟩ := H
     replace H : ((num_Reader_Num.f t430 65536).bind fun bt431 => ((num_Reader_Num.f bt431.2 65536).bind fun bt433 => (page_Decode.j2 k l0 t396 bt433.2 (wrap64 (t393)) ([] : List ByteArray) ([] : List ByteArray) ([] : List Int) (wrap64 (t427)) (wrap64 (t429)) (wrap64 (bt431.1)) (wrap64 (bt433.1))))) = some (r1, r2, r3, r4, r5, r6, r7, r8, r9, r10) := H
     have A63 := Aside0.mk A630
     clear A630
     replace H := Option.bind_eq_some_iff.mp H
     obtain ⟨⟨t431, t432⟩, A640, H⟩ := H
     replace H : ((num_Reader_Num.f t432 65536).bind fun bt433 => (page_Decode.j2 k l0 t396 bt433.2 (wrap64 (t393)) ([] : List ByteArray) ([] : List ByteArray) ([] : List Int) (wrap64 (t427)) (wrap64 (t429)) (wrap64 (t431)) (wrap64 (bt433.1)))) = some (r1, r2, r3, r4, r5, r6, r7, r8, r9, r10) := H
     have A64 := Aside0.mk A640
     clear A640
     replace H := Option.bind_eq_some_iff.mp H
     obtain ⟨⟨t433, t434⟩, A650, H⟩ := H
     replace H : (page_Decode.j2 k l0 t396 t434 (wrap64 (t393)) ([] : List ByteArray) ([] : List ByteArray) ([] : List Int) (wrap64 (t427)) (wrap64 (t429)) (wrap64 (t431)) (wrap64 (t433))) = some (r1, r2, r3, r4, r5, r6, r7, r8, r9, r10) := H
     have A65 := Aside0.mk A650
     clear A650
     have H' := Aside0.mk H
     clear H
     go_wp2_with (first | ((with_reducible refine gate_callee (f := 49) rfl ?_); refine goesL_ (some 69) rfl rfl Try.func49 (by kernel_rfl) rfl #[.pointer (some ⟨g392, 0, none⟩), .int .u64 65535] rfl (by (try simp only [List.map_toArray, List.map_cons, List.map_nil]); first | done | rfl | (simp only [List.length_drop, List.length_take]; rfl)) ?_; (with_reducible refine (num_Reader_Num.calls g392 t397 65535 t427 t428 w _ ?side1 ?side2 A62.out).mono ?_); (case side1 => repeat (first | (with_reducible first | exact zb.out | apply IsS103.alloc | apply IsS103.drewN | apply IsS103.drew | apply IsS103.set_0 | refine IsS103.far ?_ zg.out _ | refine IsS103.far ?_ zh.out _) | exact zb.out)); (case side2 => repeat (first | (with_reducible first | exact HB.out | apply wA | apply wN | apply wD | refine wS ?_ (IsS103.ge zb.out) | refine wS ?_ zs.out | refine wS ?_ zv.out) | exact HB.out)); rintro e w66 ⟨rfl, hi, hb, hk⟩; refine ⟨_, rfl, ?_⟩; have n0_ := Aside0.mk (KeepBut.blk hk (g' := zj) (o := .cells #[.int .i64 0, .slice none 0 0, .slice none 0 0, .slice none 0 0, .int .i64 0, .int .i64 0, .int .i64 0, .int .i64 0] 27 (0, 0)) (by (with_reducible repeat (first | refine bN ?_ _ | refine bD ?_ | refine bA ?_ _)); exact zc.out) zy.out (by simp)); have n1_ := Aside0.mk (KeepBut.blk hk (g' := zd) (o := .cells #[.int .i64 (wrap64 (t393)), .slice none 0 0, .slice none 0 0, .slice none 0 0, .int .i64 0, .int .i64 0, .int .i64 0, .int .i64 0] 27 (0, 0)) (by (with_reducible repeat (first | refine bN ?_ _ | refine bD ?_ | refine bA ?_ _)); exact za.out) zw.out (by simp)); have n2_ := Aside0.mk (hb); have n3_ := Aside0.mk (hi); clear zc; clear za; clear HB; clear zb; have zc := n0_; have za := n1_; have HB := n2_; have zb := n3_; clear n0_ n1_ n2_ n3_; (try clear hb); (try clear hb2); (try clear hk); (try clear hi)) | ((with_reducible refine gate_callee (f := 49) rfl ?_); refine goesL_ (some 72) rfl rfl Try.func49 (by kernel_rfl) rfl #[.pointer (some ⟨g392, 0, none⟩), .int .u64 65535] rfl (by (try simp only [List.map_toArray, List.map_cons, List.map_nil]); first | done | rfl | (simp only [List.length_drop, List.length_take]; rfl)) ?_; (with_reducible refine (num_Reader_Num.calls g392 t428 65535 t429 t430 w _ ?side1 ?side2 A63.out).mono ?_); (case side1 => repeat (first | (with_reducible first | exact zb.out | apply IsS103.alloc | apply IsS103.drewN | apply IsS103.drew | apply IsS103.set_0 | refine IsS103.far ?_ zg.out _ | refine IsS103.far ?_ zh.out _) | exact zb.out)); (case side2 => repeat (first | (with_reducible first | exact HB.out | apply wA | apply wN | apply wD | refine wS ?_ (IsS103.ge zb.out) | refine wS ?_ zs.out | refine wS ?_ zv.out) | exact HB.out)); rintro e w67 ⟨rfl, hi, hb, hk⟩; refine ⟨_, rfl, ?_⟩; have n0_ := Aside0.mk (KeepBut.blk hk (g' := zj) (o := .cells #[.int .i64 0, .slice none 0 0, .slice none 0 0, .slice none 0 0, .int .i64 0, .int .i64 0, .int .i64 0, .int .i64 0] 27 (0, 0)) (by (with_reducible repeat (first | refine bN ?_ _ | refine bD ?_ | refine bA ?_ _)); exact zc.out) zy.out (by simp)); have n1_ := Aside0.mk (KeepBut.blk hk (g' := zd) (o := .cells #[.int .i64 (wrap64 (t393)), .slice none 0 0, .slice none 0 0, .slice none 0 0, .int .i64 0, .int .i64 0, .int .i64 0, .int .i64 0] 27 (0, 0)) (by (with_reducible repeat (first | refine bN ?_ _ | refine bD ?_ | refine bA ?_ _)); exact za.out) zw.out (by simp)); have n2_ := Aside0.mk (hb); have n3_ := Aside0.mk (hi); clear zc; clear za; clear HB; clear zb; have zc := n0_; have za := n1_; have HB := n2_; have zb := n3_; clear n0_ n1_ n2_ n3_; (try clear hb); (try clear hb2); (try clear hk); (try clear hi); have hnb68 := ye.out; have hnc68 := zt.out; have hnb69 := zw.out; have hnc69 := zh.out; have zak : w67.cell? ⟨zd, 0, none⟩ = some (.int .i64 (wrap64 (t393))) := (blk_cell za.out 0).trans rfl; have zal : w67.cell? ⟨zd, 1, none⟩ = some (.slice none 0 0) := (blk_cell za.out 1).trans rfl; have zam : w67.cell? ⟨zd, 2, none⟩ = some (.slice none 0 0) := (blk_cell za.out 2).trans rfl; have zan : w67.cell? ⟨zd, 3, none⟩ = some (.slice none 0 0) := (blk_cell za.out 3).trans rfl; have zao : w67.cell? ⟨zd, 4, none⟩ = some (.int .i64 0) := (blk_cell za.out 4).trans rfl; have zap : w67.cell? ⟨zd, 5, none⟩ = some (.int .i64 0) := (blk_cell za.out 5).trans rfl; have zaq : w67.cell? ⟨zd, 6, none⟩ = some (.int .i64 0) := (blk_cell za.out 6).trans rfl; have zar : w67.cell? ⟨zd, 7, none⟩ = some (.int .i64 0) := (blk_cell za.out 7).trans rfl; have zas := blk_frozen za.out 0; have zat := blk_frozen za.out 1; have zau := blk_frozen za.out 2; have zav := blk_frozen za.out 3; have zaw := blk_frozen za.out 4; have zax := blk_frozen za.out 5; have zay := blk_frozen za.out 6; have zaz := blk_frozen za.out 7) | ((with_reducible refine gate_callee (f := 49) rfl ?_); refine goesL_ (some 77) rfl rfl Try.func49 (by kernel_rfl) rfl #[.pointer (some ⟨g392, 0, none⟩), .int .u64 65536] rfl (by (try simp only [List.map_toArray, List.map_cons, List.map_nil]); first | done | rfl | (simp only [List.length_drop, List.length_take]; rfl)) ?_; (with_reducible refine (num_Reader_Num.calls g392 t430 65536 t431 t432 w _ ?side1 ?side2 A64.out).mono ?_); (case side1 => repeat (first | (with_reducible first | exact zb.out | apply IsS103.alloc | apply IsS103.drewN | apply IsS103.drew | apply IsS103.set_0 | refine IsS103.far ?_ zg.out _ | refine IsS103.far ?_ zh.out _) | exact zb.out)); (case side2 => repeat (first | (with_reducible first | exact HB.out | apply wA | apply wN | apply wD | refine wS ?_ (IsS103.ge zb.out) | refine wS ?_ zs.out | refine wS ?_ zv.out) | exact HB.out)); rintro e w71 ⟨rfl, hi, hb, hk⟩; refine ⟨_, rfl, ?_⟩; have n0_ := Aside0.mk (KeepBut.blk hk (g' := zj) (o := .cells #[.int .i64 0, .slice none 0 0, .slice none 0 0, .slice none 0 0, .int .i64 0, .int .i64 0, .int .i64 0, .int .i64 0] 27 (0, 0)) (by (with_reducible repeat (first | refine bN ?_ _ | refine bD ?_ | refine bA ?_ _)); refine blk_far ?_ zt.out _; (with_reducible repeat (first | refine bN ?_ _ | refine bD ?_ | refine bA ?_ _)); refine blk_far ?_ zt.out _; (with_reducible repeat (first | refine bN ?_ _ | refine bD ?_ | refine bA ?_ _)); exact zc.out) zy.out (by simp)); have n1_ := Aside0.mk (KeepBut.blk hk (g' := zd) (o := .cells #[.int .i64 (wrap64 (t393)), .slice none 0 0, .slice none 0 0, .slice none 0 0, .int .i64 (wrap64 (t427)), .int .i64 (wrap64 (t429)), .int .i64 0, .int .i64 0] 27 (0, 0)) (by (with_reducible repeat (first | refine bN ?_ _ | refine bD ?_ | refine bA ?_ _)); refine blk_put (cs := #[.int .i64 (wrap64 (t393)), .slice none 0 0, .slice none 0 0, .slice none 0 0, .int .i64 (wrap64 (t427)), .int .i64 0, .int .i64 0, .int .i64 0]) ?_ 5 _ rfl; (with_reducible repeat (first | refine bN ?_ _ | refine bD ?_ | refine bA ?_ _)); refine blk_put (cs := #[.int .i64 (wrap64 (t393)), .slice none 0 0, .slice none 0 0, .slice none 0 0, .int .i64 0, .int .i64 0, .int .i64 0, .int .i64 0]) ?_ 4 _ rfl; (with_reducible repeat (first | refine bN ?_ _ | refine bD ?_ | refine bA ?_ _)); exact za.out) zw.out (by simp)); have n2_ := Aside0.mk (hb); have n3_ := Aside0.mk (hi); clear zc; clear za; clear HB; clear zb; have zc := n0_; have za := n1_; have HB := n2_; have zb := n3_; clear n0_ n1_ n2_ n3_; (try clear hb); (try clear hb2); (try clear hk); (try clear hi)) | ((with_reducible refine gate_callee (f := 49) rfl ?_); refine goesL_ (some 80) rfl rfl Try.func49 (by kernel_rfl) rfl #[.pointer (some ⟨g392, 0, none⟩), .int .u64 65536] rfl (by (try simp only [List.map_toArray, List.map_cons, List.map_nil]); first | done | rfl | (simp only [List.length_drop, List.length_take]; rfl)) ?_; (with_reducible refine (num_Reader_Num.calls g392 t432 65536 t433 t434 w _ ?side1 ?side2 A65.out).mono ?_); (case side1 => repeat (first | (with_reducible first | exact zb.out | apply IsS103.alloc | apply IsS103.drewN | apply IsS103.drew | apply IsS103.set_0 | refine IsS103.far ?_ zg.out _ | refine IsS103.far ?_ zh.out _) | exact zb.out)); (case side2 => repeat (first | (with_reducible first | exact HB.out | apply wA | apply wN | apply wD | refine wS ?_ (IsS103.ge zb.out) | refine wS ?_ zs.out | refine wS ?_ zv.out) | exact HB.out)); rintro e w72 ⟨rfl, hi, hb, hk⟩; refine ⟨_, rfl, ?_⟩; have n0_ := Aside0.mk (KeepBut.blk hk (g' := zj) (o := .cells #[.int .i64 0, .slice none 0 0, .slice none 0 0, .slice none 0 0, .int .i64 0, .int .i64 0, .int .i64 0, .int .i64 0] 27 (0, 0)) (by (with_reducible repeat (first | refine bN ?_ _ | refine bD ?_ | refine bA ?_ _)); exact zc.out) zy.out (by simp)); have n1_ := Aside0.mk (KeepBut.blk hk (g' := zd) (o := .cells #[.int .i64 (wrap64 (t393)), .slice none 0 0, .slice none 0 0, .slice none 0 0, .int .i64 (wrap64 (t427)), .int .i64 (wrap64 (t429)), .int .i64 0, .int .i64 0] 27 (0, 0)) (by (with_reducible repeat (first | refine bN ?_ _ | refine bD ?_ | refine bA ?_ _)); exact za.out) zw.out (by simp)); have n2_ := Aside0.mk (hb); have n3_ := Aside0.mk (hi); clear zc; clear za; clear HB; clear zb; have zc := n0_; have za := n1_; have HB := n2_; have zb := n3_; clear n0_ n1_ n2_ n3_; (try clear hb); (try clear hb2); (try clear hk); (try clear hi); have za0 : w72.cell? ⟨zd, 0, none⟩ = some (.int .i64 (wrap64 (t393))) := (blk_cell za.out 0).trans rfl; have za1 : w72.cell? ⟨zd, 1, none⟩ = some (.slice none 0 0) := (blk_cell za.out 1).trans rfl; have za2 : w72.cell? ⟨zd, 2, none⟩ = some (.slice none 0 0) := (blk_cell za.out 2).trans rfl; have za3 : w72.cell? ⟨zd, 3, none⟩ = some (.slice none 0 0) := (blk_cell za.out 3).trans rfl; have za4 : w72.cell? ⟨zd, 4, none⟩ = some (.int .i64 (wrap64 (t427))) := (blk_cell za.out 4).trans rfl; have za5 : w72.cell? ⟨zd, 5, none⟩ = some (.int .i64 (wrap64 (t429))) := (blk_cell za.out 5).trans rfl; have za6 : w72.cell? ⟨zd, 6, none⟩ = some (.int .i64 0) := (blk_cell za.out 6).trans rfl; have za7 : w72.cell? ⟨zd, 7, none⟩ = some (.int .i64 0) := (blk_cell za.out 7).trans rfl; have za8 := blk_frozen za.out 0; have za9 := blk_frozen za.out 1; have zba := blk_frozen za.out 2; have zbb := blk_frozen za.out 3; have zbc := blk_frozen za.out 4; have zbd := blk_frozen za.out 5; have zbe := blk_frozen za.out 6; have zbf := blk_frozen za.out 7))
     go_meet
     case rel => exact ⟨_, (t434), (([] : List ByteArray)), (([] : List ByteArray)), (([] : List Int)), (wrap64 (t427)), (wrap64 (t429)), (wrap64 (t431)), (wrap64 (t433)), (.slice none 0 0), (.slice none 0 0), (.slice none 0 0), H', ⟨by first | omega | exact Nat.le_refl _⟩, ⟨by first | exact Kd.R_nil _ _ _ _ _ | exact Kd.N_nil _ _ _ _ _ | exact Kd.V_nil _ _ _ _ _ | exact Kd.Q_nil _ _ _ _ _ | exact Kd.S_nil _ _ _ _ _⟩, ⟨by first | exact Kd.R_nil _ _ _ _ _ | exact Kd.N_nil _ _ _ _ _ | exact Kd.V_nil _ _ _ _ _ | exact Kd.Q_nil _ _ _ _ _ | exact Kd.S_nil _ _ _ _ _⟩, ⟨by first | exact Kd.R_nil _ _ _ _ _ | exact Kd.N_nil _ _ _ _ _ | exact Kd.V_nil _ _ _ _ _ | exact Kd.Q_nil _ _ _ _ _ | exact Kd.S_nil _ _ _ _ _⟩, ⟨by (with_reducible repeat (first | refine bN ?_ _ | refine bD ?_ | refine bA ?_ _)); refine blk_far ?_ zt.out _; (with_reducible repeat (first | refine bN ?_ _ | refine bD ?_ | refine bA ?_ _)); refine blk_far ?_ zt.out _; (with_reducible repeat (first | refine bN ?_ _ | refine bD ?_ | refine bA ?_ _)); exact zc.out⟩, ⟨by (with_reducible repeat (first | refine bN ?_ _ | refine bD ?_ | refine bA ?_ _)); refine blk_put (cs := #[.int .i64 (wrap64 (t393)), .slice none 0 0, .slice none 0 0, .slice none 0 0, .int .i64 (wrap64 (t427)), .int .i64 (wrap64 (t429)), .int .i64 (wrap64 (t431)), .int .i64 0]) ?_ 7 _ rfl; (with_reducible repeat (first | refine bN ?_ _ | refine bD ?_ | refine bA ?_ _)); refine blk_put (cs := #[.int .i64 (wrap64 (t393)), .slice none 0 0, .slice none 0 0, .slice none 0 0, .int .i64 (wrap64 (t427)), .int .i64 (wrap64 (t429)), .int .i64 0, .int .i64 0]) ?_ 6 _ rfl; (with_reducible repeat (first | refine bN ?_ _ | refine bD ?_ | refine bA ?_ _)); exact za.out⟩, ⟨by repeat (first | (with_reducible first | exact zb.out | apply IsS103.alloc | apply IsS103.drewN | apply IsS103.drew | apply IsS103.set_0 | refine IsS103.far ?_ zg.out _ | refine IsS103.far ?_ zh.out _) | exact zb.out)⟩, ⟨by repeat (first | (with_reducible first | exact HB.out | apply wA | apply wN | apply wD | refine wS ?_ (IsS103.ge zb.out) | refine wS ?_ zs.out | refine wS ?_ zv.out) | exact HB.out)⟩⟩
    ·rw [if_neg c61] at H
     have c61b0 : ((wrap64 (t393)) == 3) = false := beq_eq_false_iff_ne.mpr c61
     have c61b1 : ((wrap64 (t393)) != 3) = true := bne_iff_ne.mpr c61
     by_cases c74 : (wrap64 (t393)) = 4
     ·rw [if_pos c74] at H
      have c74b0 : ((wrap64 (t393)) == 4) = true := beq_iff_eq.mpr c74
      have c74b1 : ((wrap64 (t393)) != 4) = false := bne_eq_false_iff_eq.mpr c74
      clear c74
      replace H := Option.bind_eq_some_iff.mp H
      obtain ⟨⟨t435, t436⟩, A750, H⟩ := H
      replace H : (page_Decode.j2 k l0 t396 t436 (wrap64 (t393)) ([] : List ByteArray) ([] : List ByteArray) ([] : List Int) 0 (wrap64 (t435)) 0 0) = some (r1, r2, r3, r4, r5, r6, r7, r8, r9, r10) := H
      have A75 := Aside0.mk A750
      clear A750
      have H' := Aside0.mk H
      clear H
      go_wp2_with (first | ((with_reducible refine gate_callee (f := 49) rfl ?_); refine goesL_ (some 87) rfl rfl Try.func49 (by kernel_rfl) rfl #[.pointer (some ⟨g392, 0, none⟩), .int .u64 65535] rfl (by (try simp only [List.map_toArray, List.map_cons, List.map_nil]); first | done | rfl | (simp only [List.length_drop, List.length_take]; rfl)) ?_; (with_reducible refine (num_Reader_Num.calls g392 t397 65535 t435 t436 w _ ?side1 ?side2 A75.out).mono ?_); (case side1 => repeat (first | (with_reducible first | exact zb.out | apply IsS103.alloc | apply IsS103.drewN | apply IsS103.drew | apply IsS103.set_0 | refine IsS103.far ?_ zg.out _ | refine IsS103.far ?_ zh.out _) | exact zb.out)); (case side2 => repeat (first | (with_reducible first | exact HB.out | apply wA | apply wN | apply wD | refine wS ?_ (IsS103.ge zb.out) | refine wS ?_ zs.out | refine wS ?_ zv.out) | exact HB.out)); rintro e w76 ⟨rfl, hi, hb, hk⟩; refine ⟨_, rfl, ?_⟩; have n0_ := Aside0.mk (KeepBut.blk hk (g' := zj) (o := .cells #[.int .i64 0, .slice none 0 0, .slice none 0 0, .slice none 0 0, .int .i64 0, .int .i64 0, .int .i64 0, .int .i64 0] 27 (0, 0)) (by (with_reducible repeat (first | refine bN ?_ _ | refine bD ?_ | refine bA ?_ _)); exact zc.out) zy.out (by simp)); have n1_ := Aside0.mk (KeepBut.blk hk (g' := zd) (o := .cells #[.int .i64 (wrap64 (t393)), .slice none 0 0, .slice none 0 0, .slice none 0 0, .int .i64 0, .int .i64 0, .int .i64 0, .int .i64 0] 27 (0, 0)) (by (with_reducible repeat (first | refine bN ?_ _ | refine bD ?_ | refine bA ?_ _)); exact za.out) zw.out (by simp)); have n2_ := Aside0.mk (hb); have n3_ := Aside0.mk (hi); clear zc; clear za; clear HB; clear zb; have zc := n0_; have za := n1_; have HB := n2_; have zb := n3_; clear n0_ n1_ n2_ n3_; (try clear hb); (try clear hb2); (try clear hk); (try clear hi); have hnb77 := ye.out; have hnc77 := zt.out; have hnb78 := zw.out; have hnc78 := zh.out; have zbg : w76.cell? ⟨zd, 0, none⟩ = some (.int .i64 (wrap64 (t393))) := (blk_cell za.out 0).trans rfl; have zbh : w76.cell? ⟨zd, 1, none⟩ = some (.slice none 0 0) := (blk_cell za.out 1).trans rfl; have zbi : w76.cell? ⟨zd, 2, none⟩ = some (.slice none 0 0) := (blk_cell za.out 2).trans rfl; have zbj : w76.cell? ⟨zd, 3, none⟩ = some (.slice none 0 0) := (blk_cell za.out 3).trans rfl; have zbk : w76.cell? ⟨zd, 4, none⟩ = some (.int .i64 0) := (blk_cell za.out 4).trans rfl; have zbl : w76.cell? ⟨zd, 5, none⟩ = some (.int .i64 0) := (blk_cell za.out 5).trans rfl; have zbm : w76.cell? ⟨zd, 6, none⟩ = some (.int .i64 0) := (blk_cell za.out 6).trans rfl; have zbn : w76.cell? ⟨zd, 7, none⟩ = some (.int .i64 0) := (blk_cell za.out 7).trans rfl; have zbo := blk_frozen za.out 0; have zbp := blk_frozen za.out 1; have zbq := blk_frozen za.out 2; have zbr := blk_frozen za.out 3; have zbs := blk_frozen za.out 4; have zbt := blk_frozen za.out 5; have zbu := blk_frozen za.out 6; have zbv := blk_frozen za.out 7))
      go_meet
      case rel => exact ⟨_, (t436), (([] : List ByteArray)), (([] : List ByteArray)), (([] : List Int)), (0), (wrap64 (t435)), (0), (0), (.slice none 0 0), (.slice none 0 0), (.slice none 0 0), H', ⟨by first | omega | exact Nat.le_refl _⟩, ⟨by first | exact Kd.R_nil _ _ _ _ _ | exact Kd.N_nil _ _ _ _ _ | exact Kd.V_nil _ _ _ _ _ | exact Kd.Q_nil _ _ _ _ _ | exact Kd.S_nil _ _ _ _ _⟩, ⟨by first | exact Kd.R_nil _ _ _ _ _ | exact Kd.N_nil _ _ _ _ _ | exact Kd.V_nil _ _ _ _ _ | exact Kd.Q_nil _ _ _ _ _ | exact Kd.S_nil _ _ _ _ _⟩, ⟨by first | exact Kd.R_nil _ _ _ _ _ | exact Kd.N_nil _ _ _ _ _ | exact Kd.V_nil _ _ _ _ _ | exact Kd.Q_nil _ _ _ _ _ | exact Kd.S_nil _ _ _ _ _⟩, ⟨by (with_reducible repeat (first | refine bN ?_ _ | refine bD ?_ | refine bA ?_ _)); refine blk_far ?_ zt.out _; (with_reducible repeat (first | refine bN ?_ _ | refine bD ?_ | refine bA ?_ _)); exact zc.out⟩, ⟨by (with_reducible repeat (first | refine bN ?_ _ | refine bD ?_ | refine bA ?_ _)); refine blk_put (cs := #[.int .i64 (wrap64 (t393)), .slice none 0 0, .slice none 0 0, .slice none 0 0, .int .i64 0, .int .i64 0, .int .i64 0, .int .i64 0]) ?_ 5 _ rfl; (with_reducible repeat (first | refine bN ?_ _ | refine bD ?_ | refine bA ?_ _)); exact za.out⟩, ⟨by repeat (first | (with_reducible first | exact zb.out | apply IsS103.alloc | apply IsS103.drewN | apply IsS103.drew | apply IsS103.set_0 | refine IsS103.far ?_ zg.out _ | refine IsS103.far ?_ zh.out _) | exact zb.out)⟩, ⟨by repeat (first | (with_reducible first | exact HB.out | apply wA | apply wN | apply wD | refine wS ?_ (IsS103.ge zb.out) | refine wS ?_ zs.out | refine wS ?_ zv.out) | exact HB.out)⟩⟩
     ·rw [if_neg c74] at H
      have c74b0 : ((wrap64 (t393)) == 4) = false := beq_eq_false_iff_ne.mpr c74
      have c74b1 : ((wrap64 (t393)) != 4) = true := bne_iff_ne.mpr c74
      have H' := Aside0.mk H
      clear H
      go_wp2
      go_meet
      case rel => exact ⟨_, (t397), (([] : List ByteArray)), (([] : List ByteArray)), (([] : List Int)), (0), (0), (0), (0), (.slice none 0 0), (.slice none 0 0), (.slice none 0 0), H', ⟨by first | omega | exact Nat.le_refl _⟩, ⟨by first | exact Kd.R_nil _ _ _ _ _ | exact Kd.N_nil _ _ _ _ _ | exact Kd.V_nil _ _ _ _ _ | exact Kd.Q_nil _ _ _ _ _ | exact Kd.S_nil _ _ _ _ _⟩, ⟨by first | exact Kd.R_nil _ _ _ _ _ | exact Kd.N_nil _ _ _ _ _ | exact Kd.V_nil _ _ _ _ _ | exact Kd.Q_nil _ _ _ _ _ | exact Kd.S_nil _ _ _ _ _⟩, ⟨by first | exact Kd.R_nil _ _ _ _ _ | exact Kd.N_nil _ _ _ _ _ | exact Kd.V_nil _ _ _ _ _ | exact Kd.Q_nil _ _ _ _ _ | exact Kd.S_nil _ _ _ _ _⟩, ⟨by (with_reducible repeat (first | refine bN ?_ _ | refine bD ?_ | refine bA ?_ _)); exact zc.out⟩, ⟨by (with_reducible repeat (first | refine bN ?_ _ | refine bD ?_ | refine bA ?_ _)); exact za.out⟩, ⟨by repeat (first | (with_reducible first | exact zb.out | apply IsS103.alloc | apply IsS103.drewN | apply IsS103.drew | apply IsS103.set_0 | refine IsS103.far ?_ zg.out _ | refine IsS103.far ?_ zh.out _) | exact zb.out)⟩, ⟨by repeat (first | (with_reducible first | exact HB.out | apply wA | apply wN | apply wD | refine wS ?_ (IsS103.ge zb.out) | refine wS ?_ zs.out | refine wS ?_ zv.out) | exact HB.out)⟩⟩
 case rest =>
  clear HC5
  (try clear p2); (try clear c3); (try clear c4); (try clear c5); (try clear c6); (try clear p6); (try clear c7); (try clear c34); (try clear c34b0); (try clear c34b1); (try clear c37); (try clear c37b0); (try clear c38); (try clear c38b0); (try clear c40); (try clear c42); (try clear c49); (try clear c50); (try clear c55); (try clear c61); (try clear c61b0); (try clear c61b1); (try clear p64); (try clear c68); (try clear c69); (try clear c74); (try clear c74b0); (try clear c74b1); (try clear c77); (try clear c78); (try clear zak zal zam zan zao zap zaq zar); (try clear za0 za1 za2 za3 za4 za5 za6 za7); (try clear zbg zbh zbi zbj zbk zbl zbm zbn); (try clear zas zat zau zav zaw zax zay zaz); (try clear za8 za9 zba zbb zbc zbd zbe zbf); (try clear zbo zbp zbq zbr zbs zbt zbu zbv)
  obtain ⟨kq, ya, zm, zo, zq, zk, zl, zn, zp, zr, zx, zu, HA, HJ4, zf, zi, ze, zc, za, zb, HB⟩ := hcut
  cases kq with
  | zero => exact absurd HA.out (by simp [page_Decode.j2])
  | succ kj4 =>
   have H := HA.out
   clear HA
   simp only [page_Decode.j2] at H
   replace H := Option.bind_eq_some_iff.mp H
   obtain ⟨⟨t437, t438⟩, A800, H⟩ := H
   replace H : (if 0 ≤ (wrap64 ((l0.length : Int) - t437)) then (if (wrap64 ((l0.length : Int) - t437)) ≤ (l0.length : Int) then ((num_Reader_Err.f t438).bind fun bt440 => (if bt440.1 = 0 then ((page_Page_Right.f kj4 (wrap64 (t393)) zm zo zq zk zl zn zp).bind fun t442 => (if t442 = true then ((slices_ContainsFunc_byte_byte.f (l0.drop ((wrap64 ((l0.length : Int) - t437)) : Int).toNat) 54).bind fun t443 => (if t443 = true then (some (0, ([] : List ByteArray), ([] : List ByteArray), ([] : List Int), 0, 0, 0, 0, 0, 11)) else (some ((wrap64 (t393)), zm, zo, zq, zk, zl, zn, zp, t396, 0)))) else (some (0, ([] : List ByteArray), ([] : List ByteArray), ([] : List Int), 0, 0, 0, 0, 0, 11)))) else (some (0, ([] : List ByteArray), ([] : List ByteArray), ([] : List Int), 0, 0, 0, 0, 0, 11)))) else (none)) else (none)) = some (r1, r2, r3, r4, r5, r6, r7, r8, r9, r10) := H
   have A80 := Aside0.mk A800
   clear A800
   obtain ⟨yg, yt⟩ : ∃ j_ : Int, (wrap64 ((l0.length : Int) - t437)) = j_ := ⟨_, rfl⟩
   replace H : (if 0 ≤ (yg) then (if (yg) ≤ (l0.length : Int) then ((num_Reader_Err.f t438).bind fun bt440 => (if bt440.1 = 0 then ((page_Page_Right.f kj4 (wrap64 (t393)) zm zo zq zk zl zn zp).bind fun t442 => (if t442 = true then ((slices_ContainsFunc_byte_byte.f (l0.drop ((yg) : Int).toNat) 54).bind fun t443 => (if t443 = true then (some (0, ([] : List ByteArray), ([] : List ByteArray), ([] : List Int), 0, 0, 0, 0, 0, 11)) else (some ((wrap64 (t393)), zm, zo, zq, zk, zl, zn, zp, t396, 0)))) else (some (0, ([] : List ByteArray), ([] : List ByteArray), ([] : List Int), 0, 0, 0, 0, 0, 11)))) else (some (0, ([] : List ByteArray), ([] : List ByteArray), ([] : List Int), 0, 0, 0, 0, 0, 11)))) else (none)) else (none)) = some (r1, r2, r3, r4, r5, r6, r7, r8, r9, r10) := by first | (rw [yt] at H; exact H) | (simp only [yt] at H ⊢; exact H)
   (try rw [yt] at A80)
   have zf0 : (IntKind.i64.wrap ((l0.length : Int) - t437)) = yg := (i64_w _).trans yt
   by_cases c82 : 0 ≤ (yg)
   ·rw [if_pos c82] at H
    have c82b0 := eq_true c82
    have c82b1 : decide (0 ≤ (yg)) = true := decide_eq_true c82
    clear c82
    by_cases c83 : (yg) ≤ (l0.length : Int)
    ·rw [if_pos c83] at H
     have c83b0 := eq_true c83
     have c83b1 : decide ((yg) ≤ (l0.length : Int)) = true := decide_eq_true c83
     clear c83
     replace H := Option.bind_eq_some_iff.mp H
     obtain ⟨⟨t440, t441⟩, A840, H⟩ := H
     replace H : (if t440 = 0 then ((page_Page_Right.f kj4 (wrap64 (t393)) zm zo zq zk zl zn zp).bind fun t442 => (if t442 = true then ((slices_ContainsFunc_byte_byte.f (l0.drop ((yg) : Int).toNat) 54).bind fun t443 => (if t443 = true then (some (0, ([] : List ByteArray), ([] : List ByteArray), ([] : List Int), 0, 0, 0, 0, 0, 11)) else (some ((wrap64 (t393)), zm, zo, zq, zk, zl, zn, zp, t396, 0)))) else (some (0, ([] : List ByteArray), ([] : List ByteArray), ([] : List Int), 0, 0, 0, 0, 0, 11)))) else (some (0, ([] : List ByteArray), ([] : List ByteArray), ([] : List Int), 0, 0, 0, 0, 0, 11))) = some (r1, r2, r3, r4, r5, r6, r7, r8, r9, r10) := H
     have A84 := Aside0.mk A840
     clear A840
     by_cases c85 : t440 = 0
     ·rw [if_pos c85] at H
      have c85b0 : (t440 == 0) = true := beq_iff_eq.mpr c85
      have c85b1 : (t440 != 0) = false := bne_eq_false_iff_eq.mpr c85
      clear c85
      replace H := Option.bind_eq_some_iff.mp H
      obtain ⟨t442, A860, H⟩ := H
      replace H : (if t442 = true then ((slices_ContainsFunc_byte_byte.f (l0.drop ((yg) : Int).toNat) 54).bind fun t443 => (if t443 = true then (some (0, ([] : List ByteArray), ([] : List ByteArray), ([] : List Int), 0, 0, 0, 0, 0, 11)) else (some ((wrap64 (t393)), zm, zo, zq, zk, zl, zn, zp, t396, 0)))) else (some (0, ([] : List ByteArray), ([] : List ByteArray), ([] : List Int), 0, 0, 0, 0, 0, 11))) = some (r1, r2, r3, r4, r5, r6, r7, r8, r9, r10) := H
      have A86 := Aside0.mk A860
      clear A860
      by_cases c87 : t442 = true
      ·subst c87
       have H1 : ((slices_ContainsFunc_byte_byte.f (l0.drop ((yg) : Int).toNat) 54).bind fun t443 => (if t443 = true then (some (0, ([] : List ByteArray), ([] : List ByteArray), ([] : List Int), 0, 0, 0, 0, 0, 11)) else (some ((wrap64 (t393)), zm, zo, zq, zk, zl, zn, zp, t396, 0)))) = some (r1, r2, r3, r4, r5, r6, r7, r8, r9, r10) := by rw [if_pos rfl] at H; exact H
       clear H
       have H := H1
       clear H1
       replace H := Option.bind_eq_some_iff.mp H
       obtain ⟨t443, A880, H⟩ := H
       replace H : (if t443 = true then (some (0, ([] : List ByteArray), ([] : List ByteArray), ([] : List Int), 0, 0, 0, 0, 0, 11)) else (some ((wrap64 (t393)), zm, zo, zq, zk, zl, zn, zp, t396, 0))) = some (r1, r2, r3, r4, r5, r6, r7, r8, r9, r10) := H
       have A88 := Aside0.mk A880
       clear A880
       by_cases c89 : t443 = true
       ·subst c89
        have H1 : (some (0, ([] : List ByteArray), ([] : List ByteArray), ([] : List Int), 0, 0, 0, 0, 0, 11)) = some (r1, r2, r3, r4, r5, r6, r7, r8, r9, r10) := by rw [if_pos rfl] at H; exact H
        clear H
        have H := H1
        clear H1
        simp only [Option.some.injEq, Prod.mk.injEq] at H
        obtain ⟨rfl, rfl, rfl, rfl, rfl, rfl, rfl, rfl, rfl, rfl⟩ := H
        go_wp2_with (first | ((with_reducible refine gate_callee (f := 51) rfl ?_); refine goesL_ (some 94) rfl rfl Try.func51 (by kernel_rfl) rfl #[.pointer (some ⟨g392, 0, none⟩)] rfl (by (try simp only [List.map_toArray, List.map_cons, List.map_nil]); first | done | rfl | (simp only [List.length_drop, List.length_take]; rfl)) ?_; (with_reducible refine (num_Reader_Left.calls g392 ya t437 t438 w _ ?side1 ?side2 A80.out).mono ?_); (case side1 => repeat (first | (with_reducible first | exact zb.out | apply IsS103.alloc | apply IsS103.drewN | apply IsS103.drew | apply IsS103.set_0 | refine IsS103.far ?_ zg.out _ | refine IsS103.far ?_ zh.out _) | exact zb.out)); (case side2 => repeat (first | (with_reducible first | exact HB.out | apply wA | apply wN | apply wD | refine wS ?_ (IsS103.ge zb.out) | refine wS ?_ zs.out | refine wS ?_ zv.out) | exact HB.out)); rintro e w90 ⟨rfl, hi, hb, hk⟩; refine ⟨_, rfl, ?_⟩; have n0_ := Aside0.mk (Kd.R_mono (Kd.R_keep (IsS103.apart (show IsS103 w _ g392 ya from by repeat (first | (with_reducible first | exact zb.out | apply IsS103.alloc | apply IsS103.drewN | apply IsS103.drew | apply IsS103.set_0 | refine IsS103.far ?_ zg.out _ | refine IsS103.far ?_ zh.out _) | exact zb.out)) (by (with_reducible repeat (first | apply Kd.R_alloc | apply Kd.R_drewN | apply Kd.R_drew)); exact zf.out) (by decide)) hk (fun _ h => h.2)) (fun _ h => h.1)); have n1_ := Aside0.mk (Kd.R_mono (Kd.R_keep (IsS103.apart (show IsS103 w _ g392 ya from by repeat (first | (with_reducible first | exact zb.out | apply IsS103.alloc | apply IsS103.drewN | apply IsS103.drew | apply IsS103.set_0 | refine IsS103.far ?_ zg.out _ | refine IsS103.far ?_ zh.out _) | exact zb.out)) (by (with_reducible repeat (first | apply Kd.R_alloc | apply Kd.R_drewN | apply Kd.R_drew)); exact zi.out) (by decide)) hk (fun _ h => h.2)) (fun _ h => h.1)); have n2_ := Aside0.mk (Kd.R_mono (Kd.R_keep (IsS103.apart (show IsS103 w _ g392 ya from by repeat (first | (with_reducible first | exact zb.out | apply IsS103.alloc | apply IsS103.drewN | apply IsS103.drew | apply IsS103.set_0 | refine IsS103.far ?_ zg.out _ | refine IsS103.far ?_ zh.out _) | exact zb.out)) (by (with_reducible repeat (first | apply Kd.R_alloc | apply Kd.R_drewN | apply Kd.R_drew)); exact ze.out) (by decide)) hk (fun _ h => h.2)) (fun _ h => h.1)); have n3_ := Aside0.mk (KeepBut.blk hk (g' := zj) (o := .cells #[.int .i64 0, .slice none 0 0, .slice none 0 0, .slice none 0 0, .int .i64 0, .int .i64 0, .int .i64 0, .int .i64 0] 27 (0, 0)) (by (with_reducible repeat (first | refine bN ?_ _ | refine bD ?_ | refine bA ?_ _)); exact zc.out) zy.out (by simp)); have n4_ := Aside0.mk (KeepBut.blk hk (g' := zd) (o := .cells #[.int .i64 (wrap64 (t393)), zr, zx, zu, .int .i64 zk, .int .i64 zl, .int .i64 zn, .int .i64 zp] 27 (0, 0)) (by (with_reducible repeat (first | refine bN ?_ _ | refine bD ?_ | refine bA ?_ _)); exact za.out) zw.out (by simp)); have n5_ := Aside0.mk (hb); have n6_ := Aside0.mk (hi); clear zf; clear zi; clear ze; clear zc; clear za; clear HB; clear zb; have zf := n0_; have zi := n1_; have ze := n2_; have zc := n3_; have za := n4_; have HB := n5_; have zb := n6_; clear n0_ n1_ n2_ n3_ n4_ n5_ n6_; (try clear hb); (try clear hb2); (try clear hk); (try clear hi); obtain ⟨i091, hi091, _, hsz91, _⟩ := info_parts info5; obtain ⟨A91, hcut91, hA91, hC91⟩ := print_drop_of (P := Try.prog) (Value.int .u8) 0 28 5 .i64 Try.underlying28 hi091 hsz91 A0 c0 l0 (yg) (of_decide_eq_true (by first | (with_reducible assumption) | assumption)) (of_decide_eq_true (by first | (with_reducible assumption) | assumption)) HC0.out; have yz := Aside0.mk (Kd.C_of_reads (h1 := fun _ => rfl) (hA91 _ (Kd.reads_of_C HR0.out))); have ja := Aside0.mk hC91; clear hA91 hC91 hi091 hsz91) | ((with_reducible refine gate_callee (f := 52) rfl ?_); refine goesL_ (some 98) rfl rfl Try.func52 (by kernel_rfl) rfl #[.pointer (some ⟨g392, 0, none⟩)] rfl (by (try simp only [List.map_toArray, List.map_cons, List.map_nil]); first | done | rfl | (simp only [List.length_drop, List.length_take]; rfl)) ?_; (with_reducible refine (num_Reader_Err.calls g392 t438 t440 t441 w _ ?side1 ?side2 A84.out).mono ?_); (case side1 => repeat (first | (with_reducible first | exact zb.out | apply IsS103.alloc | apply IsS103.drewN | apply IsS103.drew | apply IsS103.set_0 | refine IsS103.far ?_ zg.out _ | refine IsS103.far ?_ zh.out _) | exact zb.out)); (case side2 => repeat (first | (with_reducible first | exact HB.out | apply wA | apply wN | apply wD | refine wS ?_ (IsS103.ge zb.out) | refine wS ?_ zs.out | refine wS ?_ zv.out) | exact HB.out)); rintro e w92 ⟨rfl, hi, hb, hk⟩; refine ⟨_, rfl, ?_⟩; have n0_ := Aside0.mk (Kd.R_mono (Kd.R_keep (IsS103.apart (show IsS103 w _ g392 t438 from by repeat (first | (with_reducible first | exact zb.out | apply IsS103.alloc | apply IsS103.drewN | apply IsS103.drew | apply IsS103.set_0 | refine IsS103.far ?_ zg.out _ | refine IsS103.far ?_ zh.out _) | exact zb.out)) (by (with_reducible repeat (first | apply Kd.R_alloc | apply Kd.R_drewN | apply Kd.R_drew)); exact zf.out) (by decide)) hk (fun _ h => h.2)) (fun _ h => h.1)); have n1_ := Aside0.mk (Kd.R_mono (Kd.R_keep (IsS103.apart (show IsS103 w _ g392 t438 from by repeat (first | (with_reducible first | exact zb.out | apply IsS103.alloc | apply IsS103.drewN | apply IsS103.drew | apply IsS103.set_0 | refine IsS103.far ?_ zg.out _ | refine IsS103.far ?_ zh.out _) | exact zb.out)) (by (with_reducible repeat (first | apply Kd.R_alloc | apply Kd.R_drewN | apply Kd.R_drew)); exact zi.out) (by decide)) hk (fun _ h => h.2)) (fun _ h => h.1)); have n2_ := Aside0.mk (Kd.R_mono (Kd.R_keep (IsS103.apart (show IsS103 w _ g392 t438 from by repeat (first | (with_reducible first | exact zb.out | apply IsS103.alloc | apply IsS103.drewN | apply IsS103.drew | apply IsS103.set_0 | refine IsS103.far ?_ zg.out _ | refine IsS103.far ?_ zh.out _) | exact zb.out)) (by (with_reducible repeat (first | apply Kd.R_alloc | apply Kd.R_drewN | apply Kd.R_drew)); exact ze.out) (by decide)) hk (fun _ h => h.2)) (fun _ h => h.1)); have n3_ := Aside0.mk (KeepBut.blk hk (g' := zj) (o := .cells #[.int .i64 0, .slice none 0 0, .slice none 0 0, .slice none 0 0, .int .i64 0, .int .i64 0, .int .i64 0, .int .i64 0] 27 (0, 0)) (by (with_reducible repeat (first | refine bN ?_ _ | refine bD ?_ | refine bA ?_ _)); exact zc.out) zy.out (by simp)); have n4_ := Aside0.mk (KeepBut.blk hk (g' := zd) (o := .cells #[.int .i64 (wrap64 (t393)), zr, zx, zu, .int .i64 zk, .int .i64 zl, .int .i64 zn, .int .i64 zp] 27 (0, 0)) (by (with_reducible repeat (first | refine bN ?_ _ | refine bD ?_ | refine bA ?_ _)); exact za.out) zw.out (by simp)); have n5_ := Aside0.mk (hb); have n6_ := Aside0.mk (hi); clear zf; clear zi; clear ze; clear zc; clear za; clear HB; clear zb; have zf := n0_; have zi := n1_; have ze := n2_; have zc := n3_; have za := n4_; have HB := n5_; have zb := n6_; clear n0_ n1_ n2_ n3_ n4_ n5_ n6_; (try clear hb); (try clear hb2); (try clear hk); (try clear hi); have hnb93 := ye.out; have hnc93 := zt.out; have hnb94 := zw.out; have hnc94 := zh.out; have zfk : w92.cell? ⟨zd, 0, none⟩ = some (.int .i64 (wrap64 (t393))) := (blk_cell za.out 0).trans rfl; have zfl : w92.cell? ⟨zd, 1, none⟩ = some (zr) := (blk_cell za.out 1).trans rfl; have zfm : w92.cell? ⟨zd, 2, none⟩ = some (zx) := (blk_cell za.out 2).trans rfl; have zfn : w92.cell? ⟨zd, 3, none⟩ = some (zu) := (blk_cell za.out 3).trans rfl; have zfo : w92.cell? ⟨zd, 4, none⟩ = some (.int .i64 zk) := (blk_cell za.out 4).trans rfl; have zfp : w92.cell? ⟨zd, 5, none⟩ = some (.int .i64 zl) := (blk_cell za.out 5).trans rfl; have zfq : w92.cell? ⟨zd, 6, none⟩ = some (.int .i64 zn) := (blk_cell za.out 6).trans rfl; have zfr : w92.cell? ⟨zd, 7, none⟩ = some (.int .i64 zp) := (blk_cell za.out 7).trans rfl; have zfs := blk_frozen za.out 0; have zft := blk_frozen za.out 1; have zfu := blk_frozen za.out 2; have zfv := blk_frozen za.out 3; have zfw := blk_frozen za.out 4; have zfx := blk_frozen za.out 5; have zfy := blk_frozen za.out 6; have zfz := blk_frozen za.out 7; obtain ⟨Ao96, co96, eo96⟩ := Kd.R_slice zf.out; subst eo96; obtain ⟨Ao97, co97, eo97⟩ := Kd.R_slice zi.out; subst eo97; obtain ⟨Ao98, co98, eo98⟩ := Kd.R_slice ze.out; subst eo98) | (go_at_call 17; (with_reducible refine (page_Page_Right.calls kj4 (wrap64 (t393)) _ _ zm _ _ zo _ _ zq zk zl zn zp true _ ?side1 ?side2 ?side3 ?side4 ?side5 ?side6 A86.out).mono ?_); (case side1 => repeat (first | exact (Kd.R_reads' zf.out).2.2 | (with_reducible refine Kd.C_alloc ?_ _) | (with_reducible refine Kd.C_drewN ?_ _) | (with_reducible refine Kd.C_drew ?_))); (case side2 => exact (Kd.R_reads' zf.out).2.1); (case side3 => repeat (first | exact (Kd.R_reads' zi.out).2.2 | (with_reducible refine Kd.C_alloc ?_ _) | (with_reducible refine Kd.C_drewN ?_ _) | (with_reducible refine Kd.C_drew ?_))); (case side4 => exact (Kd.R_reads' zi.out).2.1); (case side5 => repeat (first | exact (Kd.R_reads' ze.out).2.2 | (with_reducible refine Kd.C_alloc ?_ _) | (with_reducible refine Kd.C_drewN ?_ _) | (with_reducible refine Kd.C_drew ?_))); (case side6 => exact (Kd.R_reads' ze.out).2.1); rintro e w99 ⟨rfl, hb⟩; have n0_ := Aside0.mk (Kd.R_below (by (with_reducible repeat (first | apply Kd.R_alloc | apply Kd.R_drewN | apply Kd.R_drew)); exact zf.out) hb); have n1_ := Aside0.mk (Kd.R_below (by (with_reducible repeat (first | apply Kd.R_alloc | apply Kd.R_drewN | apply Kd.R_drew)); exact zi.out) hb); have n2_ := Aside0.mk (Kd.R_below (by (with_reducible repeat (first | apply Kd.R_alloc | apply Kd.R_drewN | apply Kd.R_drew)); exact ze.out) hb); have n3_ := Aside0.mk (blk_below (g := zj) (o := .cells #[.int .i64 0, .slice none 0 0, .slice none 0 0, .slice none 0 0, .int .i64 0, .int .i64 0, .int .i64 0, .int .i64 0] 27 (0, 0)) (by (with_reducible repeat (first | refine bN ?_ _ | refine bD ?_ | refine bA ?_ _)); exact zc.out) hb); have n4_ := Aside0.mk (blk_below (g := zd) (o := .cells #[.int .i64 (wrap64 (t393)), .slice Ao96 zm.length co96, .slice Ao97 zo.length co97, .slice Ao98 zq.length co98, .int .i64 zk, .int .i64 zl, .int .i64 zn, .int .i64 zp] 27 (0, 0)) (by (with_reducible repeat (first | refine bN ?_ _ | refine bD ?_ | refine bA ?_ _)); exact za.out) hb); have n5_ := Aside0.mk (IsS103.below (by repeat (first | (with_reducible first | exact zb.out | apply IsS103.alloc | apply IsS103.drewN | apply IsS103.drew | apply IsS103.set_0 | refine IsS103.far ?_ zg.out _ | refine IsS103.far ?_ zh.out _) | exact zb.out)) hb); have n6_ := Aside0.mk (below_step (by repeat (first | (with_reducible first | exact HB.out | apply wA | apply wN | apply wD | refine wS ?_ (IsS103.ge zb.out) | refine wS ?_ zs.out | refine wS ?_ zv.out) | exact HB.out)) hb); clear zf; clear zi; clear ze; clear zc; clear za; clear zb; clear HB; have zf := n0_; have zi := n1_; have ze := n2_; have zc := n3_; have za := n4_; have zb := n5_; have HB := n6_; clear n0_ n1_ n2_ n3_ n4_ n5_ n6_; (try clear hb); (try clear hb2); (try clear hk); (try clear hi)) | (go_at_call 53; refine calls_of_args (args' := #[.slice A91 (l0.drop ((yg) : Int).toNat).length (c0 - (yg).toNat), .func (.func 54) #[] #[]]) (by first | rfl | (simp only [List.length_drop, List.length_take]; done) | (simp only [List.length_drop, List.length_take]; rfl)) ?_; (with_reducible refine (slices_ContainsFunc_byte_byte.calls _ _ (l0.drop ((yg) : Int).toNat) 54 true _ ?side1 ?side2 A88.out).mono ?_); (case side1 => repeat (first | exact (Kd.C_below yz.out HB.out) | (with_reducible refine Kd.C_alloc ?_ _) | (with_reducible refine Kd.C_drewN ?_ _) | (with_reducible refine Kd.C_drew ?_))); (case side2 => exact ja.out); rintro e w' ⟨rfl, ⟨nd, rfl⟩⟩; (try (rw [drewN_self w99]; generalize hq_ : World.drewN w99 _ = w99; have n0_ : Aside0 (Kd.R Kd.string 9 w99 w.heap.size (fun k_ => some k_ ≠ (.slice Ao97 zo.length co97 : Value).ownBlock) (.slice Ao96 zm.length co96) zm) := ⟨by rw [← hq_]; exact (by (with_reducible repeat (first | apply Kd.R_alloc | apply Kd.R_drewN | apply Kd.R_drew)); exact zf.out)⟩; have n1_ : Aside0 (Kd.R Kd.string 9 w99 w.heap.size (fun k_ => some k_ ≠ (.slice Ao96 zm.length co96 : Value).ownBlock) (.slice Ao97 zo.length co97) zo) := ⟨by rw [← hq_]; exact (by (with_reducible repeat (first | apply Kd.R_alloc | apply Kd.R_drewN | apply Kd.R_drew)); exact zi.out)⟩; have n2_ : Aside0 (Kd.R (Kd.int .i64) 3 w99 w.heap.size (fun _ => True) (.slice Ao98 zq.length co98) zq) := ⟨by rw [← hq_]; exact (by (with_reducible repeat (first | apply Kd.R_alloc | apply Kd.R_drewN | apply Kd.R_drew)); exact ze.out)⟩; have n3_ : Aside0 (w99.heap[zj]? = some (.cells #[.int .i64 0, .slice none 0 0, .slice none 0 0, .slice none 0 0, .int .i64 0, .int .i64 0, .int .i64 0, .int .i64 0] 27 (0, 0))) := ⟨by rw [← hq_]; exact (by (with_reducible repeat (first | refine bN ?_ _ | refine bD ?_ | refine bA ?_ _)); exact zc.out)⟩; have n4_ : Aside0 (w99.heap[zd]? = some (.cells #[.int .i64 (wrap64 (t393)), .slice Ao96 zm.length co96, .slice Ao97 zo.length co97, .slice Ao98 zq.length co98, .int .i64 zk, .int .i64 zl, .int .i64 zn, .int .i64 zp] 27 (0, 0))) := ⟨by rw [← hq_]; exact (by (with_reducible repeat (first | refine bN ?_ _ | refine bD ?_ | refine bA ?_ _)); exact za.out)⟩; have n5_ : Aside0 (IsS103 w w99 g392 t441) := ⟨by rw [← hq_]; exact (by repeat (first | (with_reducible first | exact zb.out | apply IsS103.alloc | apply IsS103.drewN | apply IsS103.drew | apply IsS103.set_0 | refine IsS103.far ?_ zg.out _ | refine IsS103.far ?_ zh.out _) | exact zb.out))⟩; have n6_ : Aside0 (Below w.heap.size w w99) := ⟨by rw [← hq_]; exact (by repeat (first | (with_reducible first | exact HB.out | apply wA | apply wN | apply wD | refine wS ?_ (IsS103.ge zb.out) | refine wS ?_ zs.out | refine wS ?_ zv.out) | exact HB.out))⟩; clear zf zi ze zc za zb HB hq_; have zf := n0_; have zi := n1_; have ze := n2_; have zc := n3_; have za := n4_; have zb := n5_; have HB := n6_; clear n0_ n1_ n2_ n3_ n4_ n5_ n6_)); have hnb100 := zy.out; have hnc100 := zg.out; have zb6 : w99.cell? ⟨zj, 0, none⟩ = some (.int .i64 0) := (blk_cell zc.out 0).trans rfl; have zb7 : w99.cell? ⟨zj, 1, none⟩ = some (.slice none 0 0) := (blk_cell zc.out 1).trans rfl; have zb8 : w99.cell? ⟨zj, 2, none⟩ = some (.slice none 0 0) := (blk_cell zc.out 2).trans rfl; have zb9 : w99.cell? ⟨zj, 3, none⟩ = some (.slice none 0 0) := (blk_cell zc.out 3).trans rfl; have zca : w99.cell? ⟨zj, 4, none⟩ = some (.int .i64 0) := (blk_cell zc.out 4).trans rfl; have zcb : w99.cell? ⟨zj, 5, none⟩ = some (.int .i64 0) := (blk_cell zc.out 5).trans rfl; have zcc : w99.cell? ⟨zj, 6, none⟩ = some (.int .i64 0) := (blk_cell zc.out 6).trans rfl; have zcd : w99.cell? ⟨zj, 7, none⟩ = some (.int .i64 0) := (blk_cell zc.out 7).trans rfl; have zce := blk_frozen zc.out 0; have zcf := blk_frozen zc.out 1; have zcg := blk_frozen zc.out 2; have zch := blk_frozen zc.out 3; have zci := blk_frozen zc.out 4; have zcj := blk_frozen zc.out 5; have zck := blk_frozen zc.out 6; have zcl := blk_frozen zc.out 7))
        refine bodyPost_ret (results_ctt rfl _ _ zj 27 #[.int .i64 0, .slice none 0 0, .slice none 0 0, .slice none 0 0, .int .i64 0, .int .i64 0, .int .i64 0, .int .i64 0] (0, 0) _ rfl (by (with_reducible repeat (first | refine bN ?_ _ | refine bD ?_ | refine bA ?_ _)); refine blk_put (cs := #[.int .i64 0, .slice none 0 0, .slice none 0 0, .slice none 0 0, .int .i64 0, .int .i64 0, .int .i64 0, .int .i64 0]) ?_ 7 _ rfl; (with_reducible repeat (first | refine bN ?_ _ | refine bD ?_ | refine bA ?_ _)); refine blk_put (cs := #[.int .i64 0, .slice none 0 0, .slice none 0 0, .slice none 0 0, .int .i64 0, .int .i64 0, .int .i64 0, .int .i64 0]) ?_ 6 _ rfl; (with_reducible repeat (first | refine bN ?_ _ | refine bD ?_ | refine bA ?_ _)); refine blk_put (cs := #[.int .i64 0, .slice none 0 0, .slice none 0 0, .slice none 0 0, .int .i64 0, .int .i64 0, .int .i64 0, .int .i64 0]) ?_ 5 _ rfl; (with_reducible repeat (first | refine bN ?_ _ | refine bD ?_ | refine bA ?_ _)); refine blk_put (cs := #[.int .i64 0, .slice none 0 0, .slice none 0 0, .slice none 0 0, .int .i64 0, .int .i64 0, .int .i64 0, .int .i64 0]) ?_ 4 _ rfl; (with_reducible repeat (first | refine bN ?_ _ | refine bD ?_ | refine bA ?_ _)); refine blk_put (cs := #[.int .i64 0, .slice none 0 0, .slice none 0 0, .slice none 0 0, .int .i64 0, .int .i64 0, .int .i64 0, .int .i64 0]) ?_ 3 _ rfl; (with_reducible repeat (first | refine bN ?_ _ | refine bD ?_ | refine bA ?_ _)); refine blk_put (cs := #[.int .i64 0, .slice none 0 0, .slice none 0 0, .slice none 0 0, .int .i64 0, .int .i64 0, .int .i64 0, .int .i64 0]) ?_ 2 _ rfl; (with_reducible repeat (first | refine bN ?_ _ | refine bD ?_ | refine bA ?_ _)); refine blk_put (cs := #[.int .i64 0, .slice none 0 0, .slice none 0 0, .slice none 0 0, .int .i64 0, .int .i64 0, .int .i64 0, .int .i64 0]) ?_ 1 _ rfl; (with_reducible repeat (first | refine bN ?_ _ | refine bD ?_ | refine bA ?_ _)); refine blk_put (cs := #[.int .i64 0, .slice none 0 0, .slice none 0 0, .slice none 0 0, .int .i64 0, .int .i64 0, .int .i64 0, .int .i64 0]) ?_ 0 _ rfl; (with_reducible repeat (first | refine bN ?_ _ | refine bD ?_ | refine bA ?_ _)); exact zc.out) Try.underlying27 rfl (by kernel_rfl)) rfl ?_
        exact ⟨_, _, _, by first | rfl | (simp [errW_none, errW_some] <;> rfl) | (simp only [← yt]; first | rfl | (simp [errW_none, errW_some] <;> rfl)) | (simp [*, errW_none, errW_some] <;> rfl), by first | exact Kd.R_nil _ _ _ _ _ | exact Kd.N_nil _ _ _ _ _ | exact Kd.V_nil _ _ _ _ _ | exact Kd.Q_nil _ _ _ _ _ | exact Kd.S_nil _ _ _ _ _, by first | exact Kd.R_nil _ _ _ _ _ | exact Kd.N_nil _ _ _ _ _ | exact Kd.V_nil _ _ _ _ _ | exact Kd.Q_nil _ _ _ _ _ | exact Kd.S_nil _ _ _ _ _, by first | exact Kd.R_nil _ _ _ _ _ | exact Kd.N_nil _ _ _ _ _ | exact Kd.V_nil _ _ _ _ _ | exact Kd.Q_nil _ _ _ _ _ | exact Kd.S_nil _ _ _ _ _, by repeat (first | (with_reducible first | exact HB.out | apply wA | apply wN | apply wD | refine wS ?_ (IsS103.ge zb.out) | refine wS ?_ zs.out | refine wS ?_ zv.out) | exact HB.out)⟩
       ·replace c89 := Bool.eq_false_iff.mpr c89
        subst c89
        have H1 : (some ((wrap64 (t393)), zm, zo, zq, zk, zl, zn, zp, t396, 0)) = some (r1, r2, r3, r4, r5, r6, r7, r8, r9, r10) := by rw [if_neg (show ¬ (false = true) by decide)] at H; exact H
        clear H
        have H := H1
        clear H1
        simp only [Option.some.injEq, Prod.mk.injEq] at H
        obtain ⟨rfl, rfl, rfl, rfl, rfl, rfl, rfl, rfl, rfl, rfl⟩ := H
        go_wp2_with (first | ((with_reducible refine gate_callee (f := 51) rfl ?_); refine goesL_ (some 94) rfl rfl Try.func51 (by kernel_rfl) rfl #[.pointer (some ⟨g392, 0, none⟩)] rfl (by (try simp only [List.map_toArray, List.map_cons, List.map_nil]); first | done | rfl | (simp only [List.length_drop, List.length_take]; rfl)) ?_; (with_reducible refine (num_Reader_Left.calls g392 ya t437 t438 w _ ?side1 ?side2 A80.out).mono ?_); (case side1 => repeat (first | (with_reducible first | exact zb.out | apply IsS103.alloc | apply IsS103.drewN | apply IsS103.drew | apply IsS103.set_0 | refine IsS103.far ?_ zg.out _ | refine IsS103.far ?_ zh.out _) | exact zb.out)); (case side2 => repeat (first | (with_reducible first | exact HB.out | apply wA | apply wN | apply wD | refine wS ?_ (IsS103.ge zb.out) | refine wS ?_ zs.out | refine wS ?_ zv.out) | exact HB.out)); rintro e w102 ⟨rfl, hi, hb, hk⟩; refine ⟨_, rfl, ?_⟩; have n0_ := Aside0.mk (Kd.R_mono (Kd.R_keep (IsS103.apart (show IsS103 w _ g392 ya from by repeat (first | (with_reducible first | exact zb.out | apply IsS103.alloc | apply IsS103.drewN | apply IsS103.drew | apply IsS103.set_0 | refine IsS103.far ?_ zg.out _ | refine IsS103.far ?_ zh.out _) | exact zb.out)) (by (with_reducible repeat (first | apply Kd.R_alloc | apply Kd.R_drewN | apply Kd.R_drew)); exact zf.out) (by decide)) hk (fun _ h => h.2)) (fun _ h => h.1)); have n1_ := Aside0.mk (Kd.R_mono (Kd.R_keep (IsS103.apart (show IsS103 w _ g392 ya from by repeat (first | (with_reducible first | exact zb.out | apply IsS103.alloc | apply IsS103.drewN | apply IsS103.drew | apply IsS103.set_0 | refine IsS103.far ?_ zg.out _ | refine IsS103.far ?_ zh.out _) | exact zb.out)) (by (with_reducible repeat (first | apply Kd.R_alloc | apply Kd.R_drewN | apply Kd.R_drew)); exact zi.out) (by decide)) hk (fun _ h => h.2)) (fun _ h => h.1)); have n2_ := Aside0.mk (Kd.R_mono (Kd.R_keep (IsS103.apart (show IsS103 w _ g392 ya from by repeat (first | (with_reducible first | exact zb.out | apply IsS103.alloc | apply IsS103.drewN | apply IsS103.drew | apply IsS103.set_0 | refine IsS103.far ?_ zg.out _ | refine IsS103.far ?_ zh.out _) | exact zb.out)) (by (with_reducible repeat (first | apply Kd.R_alloc | apply Kd.R_drewN | apply Kd.R_drew)); exact ze.out) (by decide)) hk (fun _ h => h.2)) (fun _ h => h.1)); have n3_ := Aside0.mk (KeepBut.blk hk (g' := zj) (o := .cells #[.int .i64 0, .slice none 0 0, .slice none 0 0, .slice none 0 0, .int .i64 0, .int .i64 0, .int .i64 0, .int .i64 0] 27 (0, 0)) (by (with_reducible repeat (first | refine bN ?_ _ | refine bD ?_ | refine bA ?_ _)); exact zc.out) zy.out (by simp)); have n4_ := Aside0.mk (KeepBut.blk hk (g' := zd) (o := .cells #[.int .i64 (wrap64 (t393)), zr, zx, zu, .int .i64 zk, .int .i64 zl, .int .i64 zn, .int .i64 zp] 27 (0, 0)) (by (with_reducible repeat (first | refine bN ?_ _ | refine bD ?_ | refine bA ?_ _)); exact za.out) zw.out (by simp)); have n5_ := Aside0.mk (hb); have n6_ := Aside0.mk (hi); clear zf; clear zi; clear ze; clear zc; clear za; clear HB; clear zb; have zf := n0_; have zi := n1_; have ze := n2_; have zc := n3_; have za := n4_; have HB := n5_; have zb := n6_; clear n0_ n1_ n2_ n3_ n4_ n5_ n6_; (try clear hb); (try clear hb2); (try clear hk); (try clear hi); obtain ⟨i0103, hi0103, _, hsz103, _⟩ := info_parts info5; obtain ⟨A103, hcut103, hA103, hC103⟩ := print_drop_of (P := Try.prog) (Value.int .u8) 0 28 5 .i64 Try.underlying28 hi0103 hsz103 A0 c0 l0 (yg) (of_decide_eq_true (by first | (with_reducible assumption) | assumption)) (of_decide_eq_true (by first | (with_reducible assumption) | assumption)) HC0.out; have yz := Aside0.mk (Kd.C_of_reads (h1 := fun _ => rfl) (hA103 _ (Kd.reads_of_C HR0.out))); have ja := Aside0.mk hC103; clear hA103 hC103 hi0103 hsz103) | ((with_reducible refine gate_callee (f := 52) rfl ?_); refine goesL_ (some 98) rfl rfl Try.func52 (by kernel_rfl) rfl #[.pointer (some ⟨g392, 0, none⟩)] rfl (by (try simp only [List.map_toArray, List.map_cons, List.map_nil]); first | done | rfl | (simp only [List.length_drop, List.length_take]; rfl)) ?_; (with_reducible refine (num_Reader_Err.calls g392 t438 t440 t441 w _ ?side1 ?side2 A84.out).mono ?_); (case side1 => repeat (first | (with_reducible first | exact zb.out | apply IsS103.alloc | apply IsS103.drewN | apply IsS103.drew | apply IsS103.set_0 | refine IsS103.far ?_ zg.out _ | refine IsS103.far ?_ zh.out _) | exact zb.out)); (case side2 => repeat (first | (with_reducible first | exact HB.out | apply wA | apply wN | apply wD | refine wS ?_ (IsS103.ge zb.out) | refine wS ?_ zs.out | refine wS ?_ zv.out) | exact HB.out)); rintro e w104 ⟨rfl, hi, hb, hk⟩; refine ⟨_, rfl, ?_⟩; have n0_ := Aside0.mk (Kd.R_mono (Kd.R_keep (IsS103.apart (show IsS103 w _ g392 t438 from by repeat (first | (with_reducible first | exact zb.out | apply IsS103.alloc | apply IsS103.drewN | apply IsS103.drew | apply IsS103.set_0 | refine IsS103.far ?_ zg.out _ | refine IsS103.far ?_ zh.out _) | exact zb.out)) (by (with_reducible repeat (first | apply Kd.R_alloc | apply Kd.R_drewN | apply Kd.R_drew)); exact zf.out) (by decide)) hk (fun _ h => h.2)) (fun _ h => h.1)); have n1_ := Aside0.mk (Kd.R_mono (Kd.R_keep (IsS103.apart (show IsS103 w _ g392 t438 from by repeat (first | (with_reducible first | exact zb.out | apply IsS103.alloc | apply IsS103.drewN | apply IsS103.drew | apply IsS103.set_0 | refine IsS103.far ?_ zg.out _ | refine IsS103.far ?_ zh.out _) | exact zb.out)) (by (with_reducible repeat (first | apply Kd.R_alloc | apply Kd.R_drewN | apply Kd.R_drew)); exact zi.out) (by decide)) hk (fun _ h => h.2)) (fun _ h => h.1)); have n2_ := Aside0.mk (Kd.R_mono (Kd.R_keep (IsS103.apart (show IsS103 w _ g392 t438 from by repeat (first | (with_reducible first | exact zb.out | apply IsS103.alloc | apply IsS103.drewN | apply IsS103.drew | apply IsS103.set_0 | refine IsS103.far ?_ zg.out _ | refine IsS103.far ?_ zh.out _) | exact zb.out)) (by (with_reducible repeat (first | apply Kd.R_alloc | apply Kd.R_drewN | apply Kd.R_drew)); exact ze.out) (by decide)) hk (fun _ h => h.2)) (fun _ h => h.1)); have n3_ := Aside0.mk (KeepBut.blk hk (g' := zj) (o := .cells #[.int .i64 0, .slice none 0 0, .slice none 0 0, .slice none 0 0, .int .i64 0, .int .i64 0, .int .i64 0, .int .i64 0] 27 (0, 0)) (by (with_reducible repeat (first | refine bN ?_ _ | refine bD ?_ | refine bA ?_ _)); exact zc.out) zy.out (by simp)); have n4_ := Aside0.mk (KeepBut.blk hk (g' := zd) (o := .cells #[.int .i64 (wrap64 (t393)), zr, zx, zu, .int .i64 zk, .int .i64 zl, .int .i64 zn, .int .i64 zp] 27 (0, 0)) (by (with_reducible repeat (first | refine bN ?_ _ | refine bD ?_ | refine bA ?_ _)); exact za.out) zw.out (by simp)); have n5_ := Aside0.mk (hb); have n6_ := Aside0.mk (hi); clear zf; clear zi; clear ze; clear zc; clear za; clear HB; clear zb; have zf := n0_; have zi := n1_; have ze := n2_; have zc := n3_; have za := n4_; have HB := n5_; have zb := n6_; clear n0_ n1_ n2_ n3_ n4_ n5_ n6_; (try clear hb); (try clear hb2); (try clear hk); (try clear hi); have hnb105 := ye.out; have hnc105 := zt.out; have hnb106 := zw.out; have hnc106 := zh.out; have zcm : w104.cell? ⟨zd, 0, none⟩ = some (.int .i64 (wrap64 (t393))) := (blk_cell za.out 0).trans rfl; have zcn : w104.cell? ⟨zd, 1, none⟩ = some (zr) := (blk_cell za.out 1).trans rfl; have zco : w104.cell? ⟨zd, 2, none⟩ = some (zx) := (blk_cell za.out 2).trans rfl; have zcp : w104.cell? ⟨zd, 3, none⟩ = some (zu) := (blk_cell za.out 3).trans rfl; have zcq : w104.cell? ⟨zd, 4, none⟩ = some (.int .i64 zk) := (blk_cell za.out 4).trans rfl; have zcr : w104.cell? ⟨zd, 5, none⟩ = some (.int .i64 zl) := (blk_cell za.out 5).trans rfl; have zcs : w104.cell? ⟨zd, 6, none⟩ = some (.int .i64 zn) := (blk_cell za.out 6).trans rfl; have zct : w104.cell? ⟨zd, 7, none⟩ = some (.int .i64 zp) := (blk_cell za.out 7).trans rfl; have zcu := blk_frozen za.out 0; have zcv := blk_frozen za.out 1; have zcw := blk_frozen za.out 2; have zcx := blk_frozen za.out 3; have zcy := blk_frozen za.out 4; have zcz := blk_frozen za.out 5; have zc0 := blk_frozen za.out 6; have zc1 := blk_frozen za.out 7; obtain ⟨Ao108, co108, eo108⟩ := Kd.R_slice zf.out; subst eo108; obtain ⟨Ao109, co109, eo109⟩ := Kd.R_slice zi.out; subst eo109; obtain ⟨Ao110, co110, eo110⟩ := Kd.R_slice ze.out; subst eo110) | (go_at_call 17; (with_reducible refine (page_Page_Right.calls kj4 (wrap64 (t393)) _ _ zm _ _ zo _ _ zq zk zl zn zp true _ ?side1 ?side2 ?side3 ?side4 ?side5 ?side6 A86.out).mono ?_); (case side1 => repeat (first | exact (Kd.R_reads' zf.out).2.2 | (with_reducible refine Kd.C_alloc ?_ _) | (with_reducible refine Kd.C_drewN ?_ _) | (with_reducible refine Kd.C_drew ?_))); (case side2 => exact (Kd.R_reads' zf.out).2.1); (case side3 => repeat (first | exact (Kd.R_reads' zi.out).2.2 | (with_reducible refine Kd.C_alloc ?_ _) | (with_reducible refine Kd.C_drewN ?_ _) | (with_reducible refine Kd.C_drew ?_))); (case side4 => exact (Kd.R_reads' zi.out).2.1); (case side5 => repeat (first | exact (Kd.R_reads' ze.out).2.2 | (with_reducible refine Kd.C_alloc ?_ _) | (with_reducible refine Kd.C_drewN ?_ _) | (with_reducible refine Kd.C_drew ?_))); (case side6 => exact (Kd.R_reads' ze.out).2.1); rintro e w111 ⟨rfl, hb⟩; have n0_ := Aside0.mk (Kd.R_below (by (with_reducible repeat (first | apply Kd.R_alloc | apply Kd.R_drewN | apply Kd.R_drew)); exact zf.out) hb); have n1_ := Aside0.mk (Kd.R_below (by (with_reducible repeat (first | apply Kd.R_alloc | apply Kd.R_drewN | apply Kd.R_drew)); exact zi.out) hb); have n2_ := Aside0.mk (Kd.R_below (by (with_reducible repeat (first | apply Kd.R_alloc | apply Kd.R_drewN | apply Kd.R_drew)); exact ze.out) hb); have n3_ := Aside0.mk (blk_below (g := zj) (o := .cells #[.int .i64 0, .slice none 0 0, .slice none 0 0, .slice none 0 0, .int .i64 0, .int .i64 0, .int .i64 0, .int .i64 0] 27 (0, 0)) (by (with_reducible repeat (first | refine bN ?_ _ | refine bD ?_ | refine bA ?_ _)); exact zc.out) hb); have n4_ := Aside0.mk (blk_below (g := zd) (o := .cells #[.int .i64 (wrap64 (t393)), .slice Ao108 zm.length co108, .slice Ao109 zo.length co109, .slice Ao110 zq.length co110, .int .i64 zk, .int .i64 zl, .int .i64 zn, .int .i64 zp] 27 (0, 0)) (by (with_reducible repeat (first | refine bN ?_ _ | refine bD ?_ | refine bA ?_ _)); exact za.out) hb); have n5_ := Aside0.mk (IsS103.below (by repeat (first | (with_reducible first | exact zb.out | apply IsS103.alloc | apply IsS103.drewN | apply IsS103.drew | apply IsS103.set_0 | refine IsS103.far ?_ zg.out _ | refine IsS103.far ?_ zh.out _) | exact zb.out)) hb); have n6_ := Aside0.mk (below_step (by repeat (first | (with_reducible first | exact HB.out | apply wA | apply wN | apply wD | refine wS ?_ (IsS103.ge zb.out) | refine wS ?_ zs.out | refine wS ?_ zv.out) | exact HB.out)) hb); clear zf; clear zi; clear ze; clear zc; clear za; clear zb; clear HB; have zf := n0_; have zi := n1_; have ze := n2_; have zc := n3_; have za := n4_; have zb := n5_; have HB := n6_; clear n0_ n1_ n2_ n3_ n4_ n5_ n6_; (try clear hb); (try clear hb2); (try clear hk); (try clear hi)) | (go_at_call 53; refine calls_of_args (args' := #[.slice A103 (l0.drop ((yg) : Int).toNat).length (c0 - (yg).toNat), .func (.func 54) #[] #[]]) (by first | rfl | (simp only [List.length_drop, List.length_take]; done) | (simp only [List.length_drop, List.length_take]; rfl)) ?_; (with_reducible refine (slices_ContainsFunc_byte_byte.calls _ _ (l0.drop ((yg) : Int).toNat) 54 false _ ?side1 ?side2 A88.out).mono ?_); (case side1 => repeat (first | exact (Kd.C_below yz.out HB.out) | (with_reducible refine Kd.C_alloc ?_ _) | (with_reducible refine Kd.C_drewN ?_ _) | (with_reducible refine Kd.C_drew ?_))); (case side2 => exact ja.out); rintro e w' ⟨rfl, ⟨nd, rfl⟩⟩; (try (rw [drewN_self w111]; generalize hq_ : World.drewN w111 _ = w111; have n0_ : Aside0 (Kd.R Kd.string 9 w111 w.heap.size (fun k_ => some k_ ≠ (.slice Ao109 zo.length co109 : Value).ownBlock) (.slice Ao108 zm.length co108) zm) := ⟨by rw [← hq_]; exact (by (with_reducible repeat (first | apply Kd.R_alloc | apply Kd.R_drewN | apply Kd.R_drew)); exact zf.out)⟩; have n1_ : Aside0 (Kd.R Kd.string 9 w111 w.heap.size (fun k_ => some k_ ≠ (.slice Ao108 zm.length co108 : Value).ownBlock) (.slice Ao109 zo.length co109) zo) := ⟨by rw [← hq_]; exact (by (with_reducible repeat (first | apply Kd.R_alloc | apply Kd.R_drewN | apply Kd.R_drew)); exact zi.out)⟩; have n2_ : Aside0 (Kd.R (Kd.int .i64) 3 w111 w.heap.size (fun _ => True) (.slice Ao110 zq.length co110) zq) := ⟨by rw [← hq_]; exact (by (with_reducible repeat (first | apply Kd.R_alloc | apply Kd.R_drewN | apply Kd.R_drew)); exact ze.out)⟩; have n3_ : Aside0 (w111.heap[zj]? = some (.cells #[.int .i64 0, .slice none 0 0, .slice none 0 0, .slice none 0 0, .int .i64 0, .int .i64 0, .int .i64 0, .int .i64 0] 27 (0, 0))) := ⟨by rw [← hq_]; exact (by (with_reducible repeat (first | refine bN ?_ _ | refine bD ?_ | refine bA ?_ _)); exact zc.out)⟩; have n4_ : Aside0 (w111.heap[zd]? = some (.cells #[.int .i64 (wrap64 (t393)), .slice Ao108 zm.length co108, .slice Ao109 zo.length co109, .slice Ao110 zq.length co110, .int .i64 zk, .int .i64 zl, .int .i64 zn, .int .i64 zp] 27 (0, 0))) := ⟨by rw [← hq_]; exact (by (with_reducible repeat (first | refine bN ?_ _ | refine bD ?_ | refine bA ?_ _)); exact za.out)⟩; have n5_ : Aside0 (IsS103 w w111 g392 t441) := ⟨by rw [← hq_]; exact (by repeat (first | (with_reducible first | exact zb.out | apply IsS103.alloc | apply IsS103.drewN | apply IsS103.drew | apply IsS103.set_0 | refine IsS103.far ?_ zg.out _ | refine IsS103.far ?_ zh.out _) | exact zb.out))⟩; have n6_ : Aside0 (Below w.heap.size w w111) := ⟨by rw [← hq_]; exact (by repeat (first | (with_reducible first | exact HB.out | apply wA | apply wN | apply wD | refine wS ?_ (IsS103.ge zb.out) | refine wS ?_ zs.out | refine wS ?_ zv.out) | exact HB.out))⟩; clear zf zi ze zc za zb HB hq_; have zf := n0_; have zi := n1_; have ze := n2_; have zc := n3_; have za := n4_; have zb := n5_; have HB := n6_; clear n0_ n1_ n2_ n3_ n4_ n5_ n6_)); have zc2 : w111.cell? ⟨zd, 0, none⟩ = some (.int .i64 (wrap64 (t393))) := (blk_cell za.out 0).trans rfl; have zc3 : w111.cell? ⟨zd, 1, none⟩ = some (.slice Ao108 zm.length co108) := (blk_cell za.out 1).trans rfl; have zc4 : w111.cell? ⟨zd, 2, none⟩ = some (.slice Ao109 zo.length co109) := (blk_cell za.out 2).trans rfl; have zc5 : w111.cell? ⟨zd, 3, none⟩ = some (.slice Ao110 zq.length co110) := (blk_cell za.out 3).trans rfl; have zc6 : w111.cell? ⟨zd, 4, none⟩ = some (.int .i64 zk) := (blk_cell za.out 4).trans rfl; have zc7 : w111.cell? ⟨zd, 5, none⟩ = some (.int .i64 zl) := (blk_cell za.out 5).trans rfl; have zc8 : w111.cell? ⟨zd, 6, none⟩ = some (.int .i64 zn) := (blk_cell za.out 6).trans rfl; have zc9 : w111.cell? ⟨zd, 7, none⟩ = some (.int .i64 zp) := (blk_cell za.out 7).trans rfl; have zda := blk_frozen za.out 0; have zdb := blk_frozen za.out 1; have zdc := blk_frozen za.out 2; have zdd := blk_frozen za.out 3; have zde := blk_frozen za.out 4; have zdf := blk_frozen za.out 5; have zdg := blk_frozen za.out 6; have zdh := blk_frozen za.out 7; have hnb113 := zy.out; have hnc113 := zg.out; have zdi : w111.cell? ⟨zj, 0, none⟩ = some (.int .i64 0) := (blk_cell zc.out 0).trans rfl; have zdj : w111.cell? ⟨zj, 1, none⟩ = some (.slice none 0 0) := (blk_cell zc.out 1).trans rfl; have zdk : w111.cell? ⟨zj, 2, none⟩ = some (.slice none 0 0) := (blk_cell zc.out 2).trans rfl; have zdl : w111.cell? ⟨zj, 3, none⟩ = some (.slice none 0 0) := (blk_cell zc.out 3).trans rfl; have zdm : w111.cell? ⟨zj, 4, none⟩ = some (.int .i64 0) := (blk_cell zc.out 4).trans rfl; have zdn : w111.cell? ⟨zj, 5, none⟩ = some (.int .i64 0) := (blk_cell zc.out 5).trans rfl; have zdo : w111.cell? ⟨zj, 6, none⟩ = some (.int .i64 0) := (blk_cell zc.out 6).trans rfl; have zdp : w111.cell? ⟨zj, 7, none⟩ = some (.int .i64 0) := (blk_cell zc.out 7).trans rfl; have zdq := blk_frozen zc.out 0; have zdr := blk_frozen zc.out 1; have zds := blk_frozen zc.out 2; have zdt := blk_frozen zc.out 3; have zdu := blk_frozen zc.out 4; have zdv := blk_frozen zc.out 5; have zdw := blk_frozen zc.out 6; have zdx := blk_frozen zc.out 7))
        refine bodyPost_ret (results_ctt rfl _ _ zj 27 #[.int .i64 (wrap64 (t393)), .slice Ao108 zm.length co108, .slice Ao109 zo.length co109, .slice Ao110 zq.length co110, .int .i64 zk, .int .i64 zl, .int .i64 zn, .int .i64 zp] (0, 0) _ rfl (by (with_reducible repeat (first | refine bN ?_ _ | refine bD ?_ | refine bA ?_ _)); refine blk_put (cs := #[.int .i64 (wrap64 (t393)), .slice Ao108 zm.length co108, .slice Ao109 zo.length co109, .slice Ao110 zq.length co110, .int .i64 zk, .int .i64 zl, .int .i64 zn, .int .i64 0]) ?_ 7 _ rfl; (with_reducible repeat (first | refine bN ?_ _ | refine bD ?_ | refine bA ?_ _)); refine blk_put (cs := #[.int .i64 (wrap64 (t393)), .slice Ao108 zm.length co108, .slice Ao109 zo.length co109, .slice Ao110 zq.length co110, .int .i64 zk, .int .i64 zl, .int .i64 0, .int .i64 0]) ?_ 6 _ rfl; (with_reducible repeat (first | refine bN ?_ _ | refine bD ?_ | refine bA ?_ _)); refine blk_put (cs := #[.int .i64 (wrap64 (t393)), .slice Ao108 zm.length co108, .slice Ao109 zo.length co109, .slice Ao110 zq.length co110, .int .i64 zk, .int .i64 0, .int .i64 0, .int .i64 0]) ?_ 5 _ rfl; (with_reducible repeat (first | refine bN ?_ _ | refine bD ?_ | refine bA ?_ _)); refine blk_put (cs := #[.int .i64 (wrap64 (t393)), .slice Ao108 zm.length co108, .slice Ao109 zo.length co109, .slice Ao110 zq.length co110, .int .i64 0, .int .i64 0, .int .i64 0, .int .i64 0]) ?_ 4 _ rfl; (with_reducible repeat (first | refine bN ?_ _ | refine bD ?_ | refine bA ?_ _)); refine blk_put (cs := #[.int .i64 (wrap64 (t393)), .slice Ao108 zm.length co108, .slice Ao109 zo.length co109, .slice none 0 0, .int .i64 0, .int .i64 0, .int .i64 0, .int .i64 0]) ?_ 3 _ rfl; (with_reducible repeat (first | refine bN ?_ _ | refine bD ?_ | refine bA ?_ _)); refine blk_put (cs := #[.int .i64 (wrap64 (t393)), .slice Ao108 zm.length co108, .slice none 0 0, .slice none 0 0, .int .i64 0, .int .i64 0, .int .i64 0, .int .i64 0]) ?_ 2 _ rfl; (with_reducible repeat (first | refine bN ?_ _ | refine bD ?_ | refine bA ?_ _)); refine blk_put (cs := #[.int .i64 (wrap64 (t393)), .slice none 0 0, .slice none 0 0, .slice none 0 0, .int .i64 0, .int .i64 0, .int .i64 0, .int .i64 0]) ?_ 1 _ rfl; (with_reducible repeat (first | refine bN ?_ _ | refine bD ?_ | refine bA ?_ _)); refine blk_put (cs := #[.int .i64 0, .slice none 0 0, .slice none 0 0, .slice none 0 0, .int .i64 0, .int .i64 0, .int .i64 0, .int .i64 0]) ?_ 0 _ rfl; (with_reducible repeat (first | refine bN ?_ _ | refine bD ?_ | refine bA ?_ _)); exact zc.out) Try.underlying27 rfl (by kernel_rfl)) rfl ?_
        exact ⟨_, _, _, by first | rfl | (simp [errW_none, errW_some] <;> rfl) | (simp only [← yt]; first | rfl | (simp [errW_none, errW_some] <;> rfl)) | (simp [*, errW_none, errW_some] <;> rfl), by (with_reducible repeat (first | apply Kd.R_alloc | apply Kd.R_drewN | apply Kd.R_drew)); exact Kd.R_mono (Kd.R_far (p := ⟨zj, 7, none⟩) (Kd.R_far (p := ⟨zj, 6, none⟩) (Kd.R_far (p := ⟨zj, 5, none⟩) (Kd.R_far (p := ⟨zj, 4, none⟩) (Kd.R_far (p := ⟨zj, 3, none⟩) (Kd.R_far (p := ⟨zj, 2, none⟩) (Kd.R_far (p := ⟨zj, 1, none⟩) (Kd.R_far (p := ⟨zj, 0, none⟩) (Kd.R_types zf.out zc.out (by decide)) (fun _ hk => hk.2) (.int .i64 (wrap64 (t393)))) (fun _ hk => hk.2) (.slice Ao108 zm.length co108)) (fun _ hk => hk.2) (.slice Ao109 zo.length co109)) (fun _ hk => hk.2) (.slice Ao110 zq.length co110)) (fun _ hk => hk.2) (.int .i64 zk)) (fun _ hk => hk.2) (.int .i64 zl)) (fun _ hk => hk.2) (.int .i64 zn)) (fun _ hk => hk.2) (.int .i64 zp)) (fun _ hk => hk.1), by (with_reducible repeat (first | apply Kd.R_alloc | apply Kd.R_drewN | apply Kd.R_drew)); exact Kd.R_mono (Kd.R_far (p := ⟨zj, 7, none⟩) (Kd.R_far (p := ⟨zj, 6, none⟩) (Kd.R_far (p := ⟨zj, 5, none⟩) (Kd.R_far (p := ⟨zj, 4, none⟩) (Kd.R_far (p := ⟨zj, 3, none⟩) (Kd.R_far (p := ⟨zj, 2, none⟩) (Kd.R_far (p := ⟨zj, 1, none⟩) (Kd.R_far (p := ⟨zj, 0, none⟩) (Kd.R_types zi.out zc.out (by decide)) (fun _ hk => hk.2) (.int .i64 (wrap64 (t393)))) (fun _ hk => hk.2) (.slice Ao108 zm.length co108)) (fun _ hk => hk.2) (.slice Ao109 zo.length co109)) (fun _ hk => hk.2) (.slice Ao110 zq.length co110)) (fun _ hk => hk.2) (.int .i64 zk)) (fun _ hk => hk.2) (.int .i64 zl)) (fun _ hk => hk.2) (.int .i64 zn)) (fun _ hk => hk.2) (.int .i64 zp)) (fun _ hk => hk.1), by (with_reducible repeat (first | apply Kd.R_alloc | apply Kd.R_drewN | apply Kd.R_drew)); exact Kd.R_mono (Kd.R_far (p := ⟨zj, 7, none⟩) (Kd.R_far (p := ⟨zj, 6, none⟩) (Kd.R_far (p := ⟨zj, 5, none⟩) (Kd.R_far (p := ⟨zj, 4, none⟩) (Kd.R_far (p := ⟨zj, 3, none⟩) (Kd.R_far (p := ⟨zj, 2, none⟩) (Kd.R_far (p := ⟨zj, 1, none⟩) (Kd.R_far (p := ⟨zj, 0, none⟩) (Kd.R_types ze.out zc.out (by decide)) (fun _ hk => hk.2) (.int .i64 (wrap64 (t393)))) (fun _ hk => hk.2) (.slice Ao108 zm.length co108)) (fun _ hk => hk.2) (.slice Ao109 zo.length co109)) (fun _ hk => hk.2) (.slice Ao110 zq.length co110)) (fun _ hk => hk.2) (.int .i64 zk)) (fun _ hk => hk.2) (.int .i64 zl)) (fun _ hk => hk.2) (.int .i64 zn)) (fun _ hk => hk.2) (.int .i64 zp)) (fun _ hk => trivial), by repeat (first | (with_reducible first | exact HB.out | apply wA | apply wN | apply wD | refine wS ?_ (IsS103.ge zb.out) | refine wS ?_ zs.out | refine wS ?_ zv.out) | exact HB.out)⟩
      ·replace c87 := Bool.eq_false_iff.mpr c87
       subst c87
       have H1 : (some (0, ([] : List ByteArray), ([] : List ByteArray), ([] : List Int), 0, 0, 0, 0, 0, 11)) = some (r1, r2, r3, r4, r5, r6, r7, r8, r9, r10) := by rw [if_neg (show ¬ (false = true) by decide)] at H; exact H
       clear H
       have H := H1
       clear H1
       simp only [Option.some.injEq, Prod.mk.injEq] at H
       obtain ⟨rfl, rfl, rfl, rfl, rfl, rfl, rfl, rfl, rfl, rfl⟩ := H
       go_wp2_with (first | ((with_reducible refine gate_callee (f := 51) rfl ?_); refine goesL_ (some 94) rfl rfl Try.func51 (by kernel_rfl) rfl #[.pointer (some ⟨g392, 0, none⟩)] rfl (by (try simp only [List.map_toArray, List.map_cons, List.map_nil]); first | done | rfl | (simp only [List.length_drop, List.length_take]; rfl)) ?_; (with_reducible refine (num_Reader_Left.calls g392 ya t437 t438 w _ ?side1 ?side2 A80.out).mono ?_); (case side1 => repeat (first | (with_reducible first | exact zb.out | apply IsS103.alloc | apply IsS103.drewN | apply IsS103.drew | apply IsS103.set_0 | refine IsS103.far ?_ zg.out _ | refine IsS103.far ?_ zh.out _) | exact zb.out)); (case side2 => repeat (first | (with_reducible first | exact HB.out | apply wA | apply wN | apply wD | refine wS ?_ (IsS103.ge zb.out) | refine wS ?_ zs.out | refine wS ?_ zv.out) | exact HB.out)); rintro e w115 ⟨rfl, hi, hb, hk⟩; refine ⟨_, rfl, ?_⟩; have n0_ := Aside0.mk (Kd.R_mono (Kd.R_keep (IsS103.apart (show IsS103 w _ g392 ya from by repeat (first | (with_reducible first | exact zb.out | apply IsS103.alloc | apply IsS103.drewN | apply IsS103.drew | apply IsS103.set_0 | refine IsS103.far ?_ zg.out _ | refine IsS103.far ?_ zh.out _) | exact zb.out)) (by (with_reducible repeat (first | apply Kd.R_alloc | apply Kd.R_drewN | apply Kd.R_drew)); exact zf.out) (by decide)) hk (fun _ h => h.2)) (fun _ h => h.1)); have n1_ := Aside0.mk (Kd.R_mono (Kd.R_keep (IsS103.apart (show IsS103 w _ g392 ya from by repeat (first | (with_reducible first | exact zb.out | apply IsS103.alloc | apply IsS103.drewN | apply IsS103.drew | apply IsS103.set_0 | refine IsS103.far ?_ zg.out _ | refine IsS103.far ?_ zh.out _) | exact zb.out)) (by (with_reducible repeat (first | apply Kd.R_alloc | apply Kd.R_drewN | apply Kd.R_drew)); exact zi.out) (by decide)) hk (fun _ h => h.2)) (fun _ h => h.1)); have n2_ := Aside0.mk (Kd.R_mono (Kd.R_keep (IsS103.apart (show IsS103 w _ g392 ya from by repeat (first | (with_reducible first | exact zb.out | apply IsS103.alloc | apply IsS103.drewN | apply IsS103.drew | apply IsS103.set_0 | refine IsS103.far ?_ zg.out _ | refine IsS103.far ?_ zh.out _) | exact zb.out)) (by (with_reducible repeat (first | apply Kd.R_alloc | apply Kd.R_drewN | apply Kd.R_drew)); exact ze.out) (by decide)) hk (fun _ h => h.2)) (fun _ h => h.1)); have n3_ := Aside0.mk (KeepBut.blk hk (g' := zj) (o := .cells #[.int .i64 0, .slice none 0 0, .slice none 0 0, .slice none 0 0, .int .i64 0, .int .i64 0, .int .i64 0, .int .i64 0] 27 (0, 0)) (by (with_reducible repeat (first | refine bN ?_ _ | refine bD ?_ | refine bA ?_ _)); exact zc.out) zy.out (by simp)); have n4_ := Aside0.mk (KeepBut.blk hk (g' := zd) (o := .cells #[.int .i64 (wrap64 (t393)), zr, zx, zu, .int .i64 zk, .int .i64 zl, .int .i64 zn, .int .i64 zp] 27 (0, 0)) (by (with_reducible repeat (first | refine bN ?_ _ | refine bD ?_ | refine bA ?_ _)); exact za.out) zw.out (by simp)); have n5_ := Aside0.mk (hb); have n6_ := Aside0.mk (hi); clear zf; clear zi; clear ze; clear zc; clear za; clear HB; clear zb; have zf := n0_; have zi := n1_; have ze := n2_; have zc := n3_; have za := n4_; have HB := n5_; have zb := n6_; clear n0_ n1_ n2_ n3_ n4_ n5_ n6_; (try clear hb); (try clear hb2); (try clear hk); (try clear hi); obtain ⟨i0116, hi0116, _, hsz116, _⟩ := info_parts info5; obtain ⟨A116, hcut116, hA116, hC116⟩ := print_drop_of (P := Try.prog) (Value.int .u8) 0 28 5 .i64 Try.underlying28 hi0116 hsz116 A0 c0 l0 (yg) (of_decide_eq_true (by first | (with_reducible assumption) | assumption)) (of_decide_eq_true (by first | (with_reducible assumption) | assumption)) HC0.out; have yz := Aside0.mk (Kd.C_of_reads (h1 := fun _ => rfl) (hA116 _ (Kd.reads_of_C HR0.out))); have ja := Aside0.mk hC116; clear hA116 hC116 hi0116 hsz116) | ((with_reducible refine gate_callee (f := 52) rfl ?_); refine goesL_ (some 98) rfl rfl Try.func52 (by kernel_rfl) rfl #[.pointer (some ⟨g392, 0, none⟩)] rfl (by (try simp only [List.map_toArray, List.map_cons, List.map_nil]); first | done | rfl | (simp only [List.length_drop, List.length_take]; rfl)) ?_; (with_reducible refine (num_Reader_Err.calls g392 t438 t440 t441 w _ ?side1 ?side2 A84.out).mono ?_); (case side1 => repeat (first | (with_reducible first | exact zb.out | apply IsS103.alloc | apply IsS103.drewN | apply IsS103.drew | apply IsS103.set_0 | refine IsS103.far ?_ zg.out _ | refine IsS103.far ?_ zh.out _) | exact zb.out)); (case side2 => repeat (first | (with_reducible first | exact HB.out | apply wA | apply wN | apply wD | refine wS ?_ (IsS103.ge zb.out) | refine wS ?_ zs.out | refine wS ?_ zv.out) | exact HB.out)); rintro e w117 ⟨rfl, hi, hb, hk⟩; refine ⟨_, rfl, ?_⟩; have n0_ := Aside0.mk (Kd.R_mono (Kd.R_keep (IsS103.apart (show IsS103 w _ g392 t438 from by repeat (first | (with_reducible first | exact zb.out | apply IsS103.alloc | apply IsS103.drewN | apply IsS103.drew | apply IsS103.set_0 | refine IsS103.far ?_ zg.out _ | refine IsS103.far ?_ zh.out _) | exact zb.out)) (by (with_reducible repeat (first | apply Kd.R_alloc | apply Kd.R_drewN | apply Kd.R_drew)); exact zf.out) (by decide)) hk (fun _ h => h.2)) (fun _ h => h.1)); have n1_ := Aside0.mk (Kd.R_mono (Kd.R_keep (IsS103.apart (show IsS103 w _ g392 t438 from by repeat (first | (with_reducible first | exact zb.out | apply IsS103.alloc | apply IsS103.drewN | apply IsS103.drew | apply IsS103.set_0 | refine IsS103.far ?_ zg.out _ | refine IsS103.far ?_ zh.out _) | exact zb.out)) (by (with_reducible repeat (first | apply Kd.R_alloc | apply Kd.R_drewN | apply Kd.R_drew)); exact zi.out) (by decide)) hk (fun _ h => h.2)) (fun _ h => h.1)); have n2_ := Aside0.mk (Kd.R_mono (Kd.R_keep (IsS103.apart (show IsS103 w _ g392 t438 from by repeat (first | (with_reducible first | exact zb.out | apply IsS103.alloc | apply IsS103.drewN | apply IsS103.drew | apply IsS103.set_0 | refine IsS103.far ?_ zg.out _ | refine IsS103.far ?_ zh.out _) | exact zb.out)) (by (with_reducible repeat (first | apply Kd.R_alloc | apply Kd.R_drewN | apply Kd.R_drew)); exact ze.out) (by decide)) hk (fun _ h => h.2)) (fun _ h => h.1)); have n3_ := Aside0.mk (KeepBut.blk hk (g' := zj) (o := .cells #[.int .i64 0, .slice none 0 0, .slice none 0 0, .slice none 0 0, .int .i64 0, .int .i64 0, .int .i64 0, .int .i64 0] 27 (0, 0)) (by (with_reducible repeat (first | refine bN ?_ _ | refine bD ?_ | refine bA ?_ _)); exact zc.out) zy.out (by simp)); have n4_ := Aside0.mk (KeepBut.blk hk (g' := zd) (o := .cells #[.int .i64 (wrap64 (t393)), zr, zx, zu, .int .i64 zk, .int .i64 zl, .int .i64 zn, .int .i64 zp] 27 (0, 0)) (by (with_reducible repeat (first | refine bN ?_ _ | refine bD ?_ | refine bA ?_ _)); exact za.out) zw.out (by simp)); have n5_ := Aside0.mk (hb); have n6_ := Aside0.mk (hi); clear zf; clear zi; clear ze; clear zc; clear za; clear HB; clear zb; have zf := n0_; have zi := n1_; have ze := n2_; have zc := n3_; have za := n4_; have HB := n5_; have zb := n6_; clear n0_ n1_ n2_ n3_ n4_ n5_ n6_; (try clear hb); (try clear hb2); (try clear hk); (try clear hi); have hnb118 := ye.out; have hnc118 := zt.out; have hnb119 := zw.out; have hnc119 := zh.out; have zdy : w117.cell? ⟨zd, 0, none⟩ = some (.int .i64 (wrap64 (t393))) := (blk_cell za.out 0).trans rfl; have zdz : w117.cell? ⟨zd, 1, none⟩ = some (zr) := (blk_cell za.out 1).trans rfl; have zd0 : w117.cell? ⟨zd, 2, none⟩ = some (zx) := (blk_cell za.out 2).trans rfl; have zd1 : w117.cell? ⟨zd, 3, none⟩ = some (zu) := (blk_cell za.out 3).trans rfl; have zd2 : w117.cell? ⟨zd, 4, none⟩ = some (.int .i64 zk) := (blk_cell za.out 4).trans rfl; have zd3 : w117.cell? ⟨zd, 5, none⟩ = some (.int .i64 zl) := (blk_cell za.out 5).trans rfl; have zd4 : w117.cell? ⟨zd, 6, none⟩ = some (.int .i64 zn) := (blk_cell za.out 6).trans rfl; have zd5 : w117.cell? ⟨zd, 7, none⟩ = some (.int .i64 zp) := (blk_cell za.out 7).trans rfl; have zd6 := blk_frozen za.out 0; have zd7 := blk_frozen za.out 1; have zd8 := blk_frozen za.out 2; have zd9 := blk_frozen za.out 3; have zea := blk_frozen za.out 4; have zeb := blk_frozen za.out 5; have zec := blk_frozen za.out 6; have zed := blk_frozen za.out 7; obtain ⟨Ao121, co121, eo121⟩ := Kd.R_slice zf.out; subst eo121; obtain ⟨Ao122, co122, eo122⟩ := Kd.R_slice zi.out; subst eo122; obtain ⟨Ao123, co123, eo123⟩ := Kd.R_slice ze.out; subst eo123) | (go_at_call 17; (with_reducible refine (page_Page_Right.calls kj4 (wrap64 (t393)) _ _ zm _ _ zo _ _ zq zk zl zn zp false _ ?side1 ?side2 ?side3 ?side4 ?side5 ?side6 A86.out).mono ?_); (case side1 => repeat (first | exact (Kd.R_reads' zf.out).2.2 | (with_reducible refine Kd.C_alloc ?_ _) | (with_reducible refine Kd.C_drewN ?_ _) | (with_reducible refine Kd.C_drew ?_))); (case side2 => exact (Kd.R_reads' zf.out).2.1); (case side3 => repeat (first | exact (Kd.R_reads' zi.out).2.2 | (with_reducible refine Kd.C_alloc ?_ _) | (with_reducible refine Kd.C_drewN ?_ _) | (with_reducible refine Kd.C_drew ?_))); (case side4 => exact (Kd.R_reads' zi.out).2.1); (case side5 => repeat (first | exact (Kd.R_reads' ze.out).2.2 | (with_reducible refine Kd.C_alloc ?_ _) | (with_reducible refine Kd.C_drewN ?_ _) | (with_reducible refine Kd.C_drew ?_))); (case side6 => exact (Kd.R_reads' ze.out).2.1); rintro e w124 ⟨rfl, hb⟩; have n0_ := Aside0.mk (Kd.R_below (by (with_reducible repeat (first | apply Kd.R_alloc | apply Kd.R_drewN | apply Kd.R_drew)); exact zf.out) hb); have n1_ := Aside0.mk (Kd.R_below (by (with_reducible repeat (first | apply Kd.R_alloc | apply Kd.R_drewN | apply Kd.R_drew)); exact zi.out) hb); have n2_ := Aside0.mk (Kd.R_below (by (with_reducible repeat (first | apply Kd.R_alloc | apply Kd.R_drewN | apply Kd.R_drew)); exact ze.out) hb); have n3_ := Aside0.mk (blk_below (g := zj) (o := .cells #[.int .i64 0, .slice none 0 0, .slice none 0 0, .slice none 0 0, .int .i64 0, .int .i64 0, .int .i64 0, .int .i64 0] 27 (0, 0)) (by (with_reducible repeat (first | refine bN ?_ _ | refine bD ?_ | refine bA ?_ _)); exact zc.out) hb); have n4_ := Aside0.mk (blk_below (g := zd) (o := .cells #[.int .i64 (wrap64 (t393)), .slice Ao121 zm.length co121, .slice Ao122 zo.length co122, .slice Ao123 zq.length co123, .int .i64 zk, .int .i64 zl, .int .i64 zn, .int .i64 zp] 27 (0, 0)) (by (with_reducible repeat (first | refine bN ?_ _ | refine bD ?_ | refine bA ?_ _)); exact za.out) hb); have n5_ := Aside0.mk (IsS103.below (by repeat (first | (with_reducible first | exact zb.out | apply IsS103.alloc | apply IsS103.drewN | apply IsS103.drew | apply IsS103.set_0 | refine IsS103.far ?_ zg.out _ | refine IsS103.far ?_ zh.out _) | exact zb.out)) hb); have n6_ := Aside0.mk (below_step (by repeat (first | (with_reducible first | exact HB.out | apply wA | apply wN | apply wD | refine wS ?_ (IsS103.ge zb.out) | refine wS ?_ zs.out | refine wS ?_ zv.out) | exact HB.out)) hb); clear zf; clear zi; clear ze; clear zc; clear za; clear zb; clear HB; have zf := n0_; have zi := n1_; have ze := n2_; have zc := n3_; have za := n4_; have zb := n5_; have HB := n6_; clear n0_ n1_ n2_ n3_ n4_ n5_ n6_; (try clear hb); (try clear hb2); (try clear hk); (try clear hi); have hnb125 := zy.out; have hnc125 := zg.out; have zee : w124.cell? ⟨zj, 0, none⟩ = some (.int .i64 0) := (blk_cell zc.out 0).trans rfl; have zef : w124.cell? ⟨zj, 1, none⟩ = some (.slice none 0 0) := (blk_cell zc.out 1).trans rfl; have zeg : w124.cell? ⟨zj, 2, none⟩ = some (.slice none 0 0) := (blk_cell zc.out 2).trans rfl; have zeh : w124.cell? ⟨zj, 3, none⟩ = some (.slice none 0 0) := (blk_cell zc.out 3).trans rfl; have zei : w124.cell? ⟨zj, 4, none⟩ = some (.int .i64 0) := (blk_cell zc.out 4).trans rfl; have zej : w124.cell? ⟨zj, 5, none⟩ = some (.int .i64 0) := (blk_cell zc.out 5).trans rfl; have zek : w124.cell? ⟨zj, 6, none⟩ = some (.int .i64 0) := (blk_cell zc.out 6).trans rfl; have zel : w124.cell? ⟨zj, 7, none⟩ = some (.int .i64 0) := (blk_cell zc.out 7).trans rfl; have zem := blk_frozen zc.out 0; have zen := blk_frozen zc.out 1; have zeo := blk_frozen zc.out 2; have zep := blk_frozen zc.out 3; have zeq := blk_frozen zc.out 4; have zer := blk_frozen zc.out 5; have zes := blk_frozen zc.out 6; have zet := blk_frozen zc.out 7))
       refine bodyPost_ret (results_ctt rfl _ _ zj 27 #[.int .i64 0, .slice none 0 0, .slice none 0 0, .slice none 0 0, .int .i64 0, .int .i64 0, .int .i64 0, .int .i64 0] (0, 0) _ rfl (by (with_reducible repeat (first | refine bN ?_ _ | refine bD ?_ | refine bA ?_ _)); refine blk_put (cs := #[.int .i64 0, .slice none 0 0, .slice none 0 0, .slice none 0 0, .int .i64 0, .int .i64 0, .int .i64 0, .int .i64 0]) ?_ 7 _ rfl; (with_reducible repeat (first | refine bN ?_ _ | refine bD ?_ | refine bA ?_ _)); refine blk_put (cs := #[.int .i64 0, .slice none 0 0, .slice none 0 0, .slice none 0 0, .int .i64 0, .int .i64 0, .int .i64 0, .int .i64 0]) ?_ 6 _ rfl; (with_reducible repeat (first | refine bN ?_ _ | refine bD ?_ | refine bA ?_ _)); refine blk_put (cs := #[.int .i64 0, .slice none 0 0, .slice none 0 0, .slice none 0 0, .int .i64 0, .int .i64 0, .int .i64 0, .int .i64 0]) ?_ 5 _ rfl; (with_reducible repeat (first | refine bN ?_ _ | refine bD ?_ | refine bA ?_ _)); refine blk_put (cs := #[.int .i64 0, .slice none 0 0, .slice none 0 0, .slice none 0 0, .int .i64 0, .int .i64 0, .int .i64 0, .int .i64 0]) ?_ 4 _ rfl; (with_reducible repeat (first | refine bN ?_ _ | refine bD ?_ | refine bA ?_ _)); refine blk_put (cs := #[.int .i64 0, .slice none 0 0, .slice none 0 0, .slice none 0 0, .int .i64 0, .int .i64 0, .int .i64 0, .int .i64 0]) ?_ 3 _ rfl; (with_reducible repeat (first | refine bN ?_ _ | refine bD ?_ | refine bA ?_ _)); refine blk_put (cs := #[.int .i64 0, .slice none 0 0, .slice none 0 0, .slice none 0 0, .int .i64 0, .int .i64 0, .int .i64 0, .int .i64 0]) ?_ 2 _ rfl; (with_reducible repeat (first | refine bN ?_ _ | refine bD ?_ | refine bA ?_ _)); refine blk_put (cs := #[.int .i64 0, .slice none 0 0, .slice none 0 0, .slice none 0 0, .int .i64 0, .int .i64 0, .int .i64 0, .int .i64 0]) ?_ 1 _ rfl; (with_reducible repeat (first | refine bN ?_ _ | refine bD ?_ | refine bA ?_ _)); refine blk_put (cs := #[.int .i64 0, .slice none 0 0, .slice none 0 0, .slice none 0 0, .int .i64 0, .int .i64 0, .int .i64 0, .int .i64 0]) ?_ 0 _ rfl; (with_reducible repeat (first | refine bN ?_ _ | refine bD ?_ | refine bA ?_ _)); exact zc.out) Try.underlying27 rfl (by kernel_rfl)) rfl ?_
       exact ⟨_, _, _, by first | rfl | (simp [errW_none, errW_some] <;> rfl) | (simp only [← yt]; first | rfl | (simp [errW_none, errW_some] <;> rfl)) | (simp [*, errW_none, errW_some] <;> rfl), by first | exact Kd.R_nil _ _ _ _ _ | exact Kd.N_nil _ _ _ _ _ | exact Kd.V_nil _ _ _ _ _ | exact Kd.Q_nil _ _ _ _ _ | exact Kd.S_nil _ _ _ _ _, by first | exact Kd.R_nil _ _ _ _ _ | exact Kd.N_nil _ _ _ _ _ | exact Kd.V_nil _ _ _ _ _ | exact Kd.Q_nil _ _ _ _ _ | exact Kd.S_nil _ _ _ _ _, by first | exact Kd.R_nil _ _ _ _ _ | exact Kd.N_nil _ _ _ _ _ | exact Kd.V_nil _ _ _ _ _ | exact Kd.Q_nil _ _ _ _ _ | exact Kd.S_nil _ _ _ _ _, by repeat (first | (with_reducible first | exact HB.out | apply wA | apply wN | apply wD | refine wS ?_ (IsS103.ge zb.out) | refine wS ?_ zs.out | refine wS ?_ zv.out) | exact HB.out)⟩
     ·rw [if_neg c85] at H
      have c85b0 : (t440 == 0) = false := beq_eq_false_iff_ne.mpr c85
      have c85b1 : (t440 != 0) = true := bne_iff_ne.mpr c85
      simp only [Option.some.injEq, Prod.mk.injEq] at H
      obtain ⟨rfl, rfl, rfl, rfl, rfl, rfl, rfl, rfl, rfl, rfl⟩ := H
      go_wp2_with (first | ((with_reducible refine gate_callee (f := 51) rfl ?_); refine goesL_ (some 94) rfl rfl Try.func51 (by kernel_rfl) rfl #[.pointer (some ⟨g392, 0, none⟩)] rfl (by (try simp only [List.map_toArray, List.map_cons, List.map_nil]); first | done | rfl | (simp only [List.length_drop, List.length_take]; rfl)) ?_; (with_reducible refine (num_Reader_Left.calls g392 ya t437 t438 w _ ?side1 ?side2 A80.out).mono ?_); (case side1 => repeat (first | (with_reducible first | exact zb.out | apply IsS103.alloc | apply IsS103.drewN | apply IsS103.drew | apply IsS103.set_0 | refine IsS103.far ?_ zg.out _ | refine IsS103.far ?_ zh.out _) | exact zb.out)); (case side2 => repeat (first | (with_reducible first | exact HB.out | apply wA | apply wN | apply wD | refine wS ?_ (IsS103.ge zb.out) | refine wS ?_ zs.out | refine wS ?_ zv.out) | exact HB.out)); rintro e w127 ⟨rfl, hi, hb, hk⟩; refine ⟨_, rfl, ?_⟩; have n0_ := Aside0.mk (Kd.R_mono (Kd.R_keep (IsS103.apart (show IsS103 w _ g392 ya from by repeat (first | (with_reducible first | exact zb.out | apply IsS103.alloc | apply IsS103.drewN | apply IsS103.drew | apply IsS103.set_0 | refine IsS103.far ?_ zg.out _ | refine IsS103.far ?_ zh.out _) | exact zb.out)) (by (with_reducible repeat (first | apply Kd.R_alloc | apply Kd.R_drewN | apply Kd.R_drew)); exact zf.out) (by decide)) hk (fun _ h => h.2)) (fun _ h => h.1)); have n1_ := Aside0.mk (Kd.R_mono (Kd.R_keep (IsS103.apart (show IsS103 w _ g392 ya from by repeat (first | (with_reducible first | exact zb.out | apply IsS103.alloc | apply IsS103.drewN | apply IsS103.drew | apply IsS103.set_0 | refine IsS103.far ?_ zg.out _ | refine IsS103.far ?_ zh.out _) | exact zb.out)) (by (with_reducible repeat (first | apply Kd.R_alloc | apply Kd.R_drewN | apply Kd.R_drew)); exact zi.out) (by decide)) hk (fun _ h => h.2)) (fun _ h => h.1)); have n2_ := Aside0.mk (Kd.R_mono (Kd.R_keep (IsS103.apart (show IsS103 w _ g392 ya from by repeat (first | (with_reducible first | exact zb.out | apply IsS103.alloc | apply IsS103.drewN | apply IsS103.drew | apply IsS103.set_0 | refine IsS103.far ?_ zg.out _ | refine IsS103.far ?_ zh.out _) | exact zb.out)) (by (with_reducible repeat (first | apply Kd.R_alloc | apply Kd.R_drewN | apply Kd.R_drew)); exact ze.out) (by decide)) hk (fun _ h => h.2)) (fun _ h => h.1)); have n3_ := Aside0.mk (KeepBut.blk hk (g' := zj) (o := .cells #[.int .i64 0, .slice none 0 0, .slice none 0 0, .slice none 0 0, .int .i64 0, .int .i64 0, .int .i64 0, .int .i64 0] 27 (0, 0)) (by (with_reducible repeat (first | refine bN ?_ _ | refine bD ?_ | refine bA ?_ _)); exact zc.out) zy.out (by simp)); have n4_ := Aside0.mk (KeepBut.blk hk (g' := zd) (o := .cells #[.int .i64 (wrap64 (t393)), zr, zx, zu, .int .i64 zk, .int .i64 zl, .int .i64 zn, .int .i64 zp] 27 (0, 0)) (by (with_reducible repeat (first | refine bN ?_ _ | refine bD ?_ | refine bA ?_ _)); exact za.out) zw.out (by simp)); have n5_ := Aside0.mk (hb); have n6_ := Aside0.mk (hi); clear zf; clear zi; clear ze; clear zc; clear za; clear HB; clear zb; have zf := n0_; have zi := n1_; have ze := n2_; have zc := n3_; have za := n4_; have HB := n5_; have zb := n6_; clear n0_ n1_ n2_ n3_ n4_ n5_ n6_; (try clear hb); (try clear hb2); (try clear hk); (try clear hi); obtain ⟨i0128, hi0128, _, hsz128, _⟩ := info_parts info5; obtain ⟨A128, hcut128, hA128, hC128⟩ := print_drop_of (P := Try.prog) (Value.int .u8) 0 28 5 .i64 Try.underlying28 hi0128 hsz128 A0 c0 l0 (yg) (of_decide_eq_true (by first | (with_reducible assumption) | assumption)) (of_decide_eq_true (by first | (with_reducible assumption) | assumption)) HC0.out; have yz := Aside0.mk (Kd.C_of_reads (h1 := fun _ => rfl) (hA128 _ (Kd.reads_of_C HR0.out))); have ja := Aside0.mk hC128; clear hA128 hC128 hi0128 hsz128) | ((with_reducible refine gate_callee (f := 52) rfl ?_); refine goesL_ (some 98) rfl rfl Try.func52 (by kernel_rfl) rfl #[.pointer (some ⟨g392, 0, none⟩)] rfl (by (try simp only [List.map_toArray, List.map_cons, List.map_nil]); first | done | rfl | (simp only [List.length_drop, List.length_take]; rfl)) ?_; (with_reducible refine (num_Reader_Err.calls g392 t438 t440 t441 w _ ?side1 ?side2 A84.out).mono ?_); (case side1 => repeat (first | (with_reducible first | exact zb.out | apply IsS103.alloc | apply IsS103.drewN | apply IsS103.drew | apply IsS103.set_0 | refine IsS103.far ?_ zg.out _ | refine IsS103.far ?_ zh.out _) | exact zb.out)); (case side2 => repeat (first | (with_reducible first | exact HB.out | apply wA | apply wN | apply wD | refine wS ?_ (IsS103.ge zb.out) | refine wS ?_ zs.out | refine wS ?_ zv.out) | exact HB.out)); rintro e w129 ⟨rfl, hi, hb, hk⟩; refine ⟨_, rfl, ?_⟩; have n0_ := Aside0.mk (Kd.R_mono (Kd.R_keep (IsS103.apart (show IsS103 w _ g392 t438 from by repeat (first | (with_reducible first | exact zb.out | apply IsS103.alloc | apply IsS103.drewN | apply IsS103.drew | apply IsS103.set_0 | refine IsS103.far ?_ zg.out _ | refine IsS103.far ?_ zh.out _) | exact zb.out)) (by (with_reducible repeat (first | apply Kd.R_alloc | apply Kd.R_drewN | apply Kd.R_drew)); exact zf.out) (by decide)) hk (fun _ h => h.2)) (fun _ h => h.1)); have n1_ := Aside0.mk (Kd.R_mono (Kd.R_keep (IsS103.apart (show IsS103 w _ g392 t438 from by repeat (first | (with_reducible first | exact zb.out | apply IsS103.alloc | apply IsS103.drewN | apply IsS103.drew | apply IsS103.set_0 | refine IsS103.far ?_ zg.out _ | refine IsS103.far ?_ zh.out _) | exact zb.out)) (by (with_reducible repeat (first | apply Kd.R_alloc | apply Kd.R_drewN | apply Kd.R_drew)); exact zi.out) (by decide)) hk (fun _ h => h.2)) (fun _ h => h.1)); have n2_ := Aside0.mk (Kd.R_mono (Kd.R_keep (IsS103.apart (show IsS103 w _ g392 t438 from by repeat (first | (with_reducible first | exact zb.out | apply IsS103.alloc | apply IsS103.drewN | apply IsS103.drew | apply IsS103.set_0 | refine IsS103.far ?_ zg.out _ | refine IsS103.far ?_ zh.out _) | exact zb.out)) (by (with_reducible repeat (first | apply Kd.R_alloc | apply Kd.R_drewN | apply Kd.R_drew)); exact ze.out) (by decide)) hk (fun _ h => h.2)) (fun _ h => h.1)); have n3_ := Aside0.mk (KeepBut.blk hk (g' := zj) (o := .cells #[.int .i64 0, .slice none 0 0, .slice none 0 0, .slice none 0 0, .int .i64 0, .int .i64 0, .int .i64 0, .int .i64 0] 27 (0, 0)) (by (with_reducible repeat (first | refine bN ?_ _ | refine bD ?_ | refine bA ?_ _)); exact zc.out) zy.out (by simp)); have n4_ := Aside0.mk (KeepBut.blk hk (g' := zd) (o := .cells #[.int .i64 (wrap64 (t393)), zr, zx, zu, .int .i64 zk, .int .i64 zl, .int .i64 zn, .int .i64 zp] 27 (0, 0)) (by (with_reducible repeat (first | refine bN ?_ _ | refine bD ?_ | refine bA ?_ _)); exact za.out) zw.out (by simp)); have n5_ := Aside0.mk (hb); have n6_ := Aside0.mk (hi); clear zf; clear zi; clear ze; clear zc; clear za; clear HB; clear zb; have zf := n0_; have zi := n1_; have ze := n2_; have zc := n3_; have za := n4_; have HB := n5_; have zb := n6_; clear n0_ n1_ n2_ n3_ n4_ n5_ n6_; (try clear hb); (try clear hb2); (try clear hk); (try clear hi); have hnb130 := zt.out; have hnc130 := ye.out; have hnb131 := zy.out; have hnc131 := zg.out; have zeu : w129.cell? ⟨zj, 0, none⟩ = some (.int .i64 0) := (blk_cell zc.out 0).trans rfl; have zev : w129.cell? ⟨zj, 1, none⟩ = some (.slice none 0 0) := (blk_cell zc.out 1).trans rfl; have zew : w129.cell? ⟨zj, 2, none⟩ = some (.slice none 0 0) := (blk_cell zc.out 2).trans rfl; have zex : w129.cell? ⟨zj, 3, none⟩ = some (.slice none 0 0) := (blk_cell zc.out 3).trans rfl; have zey : w129.cell? ⟨zj, 4, none⟩ = some (.int .i64 0) := (blk_cell zc.out 4).trans rfl; have zez : w129.cell? ⟨zj, 5, none⟩ = some (.int .i64 0) := (blk_cell zc.out 5).trans rfl; have ze0 : w129.cell? ⟨zj, 6, none⟩ = some (.int .i64 0) := (blk_cell zc.out 6).trans rfl; have ze1 : w129.cell? ⟨zj, 7, none⟩ = some (.int .i64 0) := (blk_cell zc.out 7).trans rfl; have ze2 := blk_frozen zc.out 0; have ze3 := blk_frozen zc.out 1; have ze4 := blk_frozen zc.out 2; have ze5 := blk_frozen zc.out 3; have ze6 := blk_frozen zc.out 4; have ze7 := blk_frozen zc.out 5; have ze8 := blk_frozen zc.out 6; have ze9 := blk_frozen zc.out 7))
      refine bodyPost_ret (results_ctt rfl _ _ zj 27 #[.int .i64 0, .slice none 0 0, .slice none 0 0, .slice none 0 0, .int .i64 0, .int .i64 0, .int .i64 0, .int .i64 0] (0, 0) _ rfl (by (with_reducible repeat (first | refine bN ?_ _ | refine bD ?_ | refine bA ?_ _)); refine blk_put (cs := #[.int .i64 0, .slice none 0 0, .slice none 0 0, .slice none 0 0, .int .i64 0, .int .i64 0, .int .i64 0, .int .i64 0]) ?_ 7 _ rfl; (with_reducible repeat (first | refine bN ?_ _ | refine bD ?_ | refine bA ?_ _)); refine blk_put (cs := #[.int .i64 0, .slice none 0 0, .slice none 0 0, .slice none 0 0, .int .i64 0, .int .i64 0, .int .i64 0, .int .i64 0]) ?_ 6 _ rfl; (with_reducible repeat (first | refine bN ?_ _ | refine bD ?_ | refine bA ?_ _)); refine blk_put (cs := #[.int .i64 0, .slice none 0 0, .slice none 0 0, .slice none 0 0, .int .i64 0, .int .i64 0, .int .i64 0, .int .i64 0]) ?_ 5 _ rfl; (with_reducible repeat (first | refine bN ?_ _ | refine bD ?_ | refine bA ?_ _)); refine blk_put (cs := #[.int .i64 0, .slice none 0 0, .slice none 0 0, .slice none 0 0, .int .i64 0, .int .i64 0, .int .i64 0, .int .i64 0]) ?_ 4 _ rfl; (with_reducible repeat (first | refine bN ?_ _ | refine bD ?_ | refine bA ?_ _)); refine blk_put (cs := #[.int .i64 0, .slice none 0 0, .slice none 0 0, .slice none 0 0, .int .i64 0, .int .i64 0, .int .i64 0, .int .i64 0]) ?_ 3 _ rfl; (with_reducible repeat (first | refine bN ?_ _ | refine bD ?_ | refine bA ?_ _)); refine blk_put (cs := #[.int .i64 0, .slice none 0 0, .slice none 0 0, .slice none 0 0, .int .i64 0, .int .i64 0, .int .i64 0, .int .i64 0]) ?_ 2 _ rfl; (with_reducible repeat (first | refine bN ?_ _ | refine bD ?_ | refine bA ?_ _)); refine blk_put (cs := #[.int .i64 0, .slice none 0 0, .slice none 0 0, .slice none 0 0, .int .i64 0, .int .i64 0, .int .i64 0, .int .i64 0]) ?_ 1 _ rfl; (with_reducible repeat (first | refine bN ?_ _ | refine bD ?_ | refine bA ?_ _)); refine blk_put (cs := #[.int .i64 0, .slice none 0 0, .slice none 0 0, .slice none 0 0, .int .i64 0, .int .i64 0, .int .i64 0, .int .i64 0]) ?_ 0 _ rfl; (with_reducible repeat (first | refine bN ?_ _ | refine bD ?_ | refine bA ?_ _)); exact zc.out) Try.underlying27 rfl (by kernel_rfl)) rfl ?_
      exact ⟨_, _, _, by first | rfl | (simp [errW_none, errW_some] <;> rfl) | (simp only [← yt]; first | rfl | (simp [errW_none, errW_some] <;> rfl)) | (simp [*, errW_none, errW_some] <;> rfl), by first | exact Kd.R_nil _ _ _ _ _ | exact Kd.N_nil _ _ _ _ _ | exact Kd.V_nil _ _ _ _ _ | exact Kd.Q_nil _ _ _ _ _ | exact Kd.S_nil _ _ _ _ _, by first | exact Kd.R_nil _ _ _ _ _ | exact Kd.N_nil _ _ _ _ _ | exact Kd.V_nil _ _ _ _ _ | exact Kd.Q_nil _ _ _ _ _ | exact Kd.S_nil _ _ _ _ _, by first | exact Kd.R_nil _ _ _ _ _ | exact Kd.N_nil _ _ _ _ _ | exact Kd.V_nil _ _ _ _ _ | exact Kd.Q_nil _ _ _ _ _ | exact Kd.S_nil _ _ _ _ _, by repeat (first | (with_reducible first | exact HB.out | apply wA | apply wN | apply wD | refine wS ?_ (IsS103.ge zb.out) | refine wS ?_ zs.out | refine wS ?_ zv.out) | exact HB.out)⟩
    ·rw [if_neg c83] at H
     exact absurd H (by simp)
   ·rw [if_neg c82] at H
    exact absurd H (by simp)

end Go.Proofs.Ytopfaeefhicljaa.Q
