-- printed by a turned print (wip/mkprint.py of this repo) out of the translation; Lean checks it
import Derived.Test.YtopfaeefhicljaaP0
import Derived.Test.YtopfaeefhicljaaP3
namespace Go.Proofs.Ytopfaeefhicljaa.Q
open Go.RowKit Go.Proofs.YtopfaeefhicljaaW.PrintWords Go.Proofs.YtopfaeefhicljaaW.PrintLast Go.Proofs.YtopfaeefhicljaaW.PrintMore
attribute [local go_sem] max2_int min2_int max_two min_two max_three min_three max_four min_four   -- for this text's walks alone
set_option linter.unusedVariables false
set_option linter.unusedSimpArgs false

/-! ### page_Decode: function 23 -/
mutual
def page_Decode.j2 : Nat → List Int → Int → RdS → Int → List ByteArray → List ByteArray → List Int → Int → Int → Int → Int → Option (Int × List ByteArray × List ByteArray × List Int × Int × Int × Int × Int × Int × Int)
  | 0, _, _, _, _, _, _, _, _, _, _, _ => none
  | k + 1, x0, x7, x393000, x396000, x396001, x396002, x396003, x396004, x396005, x396006, x396007 => (num_Reader_Left.f x393000).bind fun bt437 => (if 0 ≤ (wrap64 ((x0.length : Int) - bt437.1)) then (if (wrap64 ((x0.length : Int) - bt437.1)) ≤ (x0.length : Int) then ((num_Reader_Err.f bt437.2).bind fun bt440 => (if bt440.1 = 0 then ((page_Page_Right.f k x396000 x396001 x396002 x396003 x396004 x396005 x396006 x396007).bind fun t442 => (if t442 = true then ((slices_ContainsFunc_byte_byte.f (x0.drop ((wrap64 ((x0.length : Int) - bt437.1)) : Int).toNat) 54).bind fun t443 => (if t443 = true then (some (0, ([] : List ByteArray), ([] : List ByteArray), ([] : List Int), 0, 0, 0, 0, 0, 11)) else (some (x396000, x396001, x396002, x396003, x396004, x396005, x396006, x396007, x7, 0)))) else (some (0, ([] : List ByteArray), ([] : List ByteArray), ([] : List Int), 0, 0, 0, 0, 0, 11)))) else (some (0, ([] : List ByteArray), ([] : List ByteArray), ([] : List Int), 0, 0, 0, 0, 0, 11)))) else (none)) else (none))
def page_Decode.l0 : Nat → List Int → Int → Int → Int → RdS → Int → List ByteArray → List ByteArray → Int → Int → Int → Int → Option (Int × List ByteArray × List ByteArray × List Int × Int × Int × Int × Int × Int × Int)
  | 0, _, _, _, _, _, _, _, _, _, _, _, _ => none
  | k + 1, x0, x7, x23, x24, x393000, x396000, x396001, x396002, x396004, x396005, x396006, x396007 => if x24 < x23 then ((num_Reader_Text.f x393000 24).bind fun bt400 => (if x396001.length < 8796093022208 then ((num_Reader_Text.f bt400.2 48).bind fun bt405 => (if x396002.length < 8796093022208 then (page_Decode.l0 k x0 x7 x23 (IntKind.u64.wrap (x24 + 1)) bt405.2 x396000 (x396001 ++ [bt400.1]) (x396002 ++ [bt405.1]) x396004 x396005 x396006 x396007) else (none))) else (none))) else (page_Decode.j2 k x0 x7 x393000 x396000 x396001 x396002 ([] : List Int) x396004 x396005 x396006 x396007)
def page_Decode.l1 : Nat → List Int → Int → Int → Int → RdS → Int → List ByteArray → List Int → Int → Int → Int → Int → Option (Int × List ByteArray × List ByteArray × List Int × Int × Int × Int × Int × Int × Int)
  | 0, _, _, _, _, _, _, _, _, _, _, _, _ => none
  | k + 1, x0, x7, x44, x45, x393000, x396000, x396001, x396003, x396004, x396005, x396006, x396007 => if x45 < x44 then (if x45 > 0 then ((num_Reader_Text.f x393000 24).bind fun bt412 => (if x396001.length < 8796093022208 then ((num_Reader_Num.f bt412.2 65535).bind fun bt417 => (if x396003.length < 17592186044416 then (page_Decode.l1 k x0 x7 x44 (IntKind.u64.wrap (x45 + 1)) bt417.2 x396000 (x396001 ++ [bt412.1]) (x396003 ++ [wrap64 (bt417.1)]) x396004 x396005 x396006 x396007) else (none))) else (none))) else ((num_Reader_Num.f x393000 65535).bind fun bt422 => (if x396003.length < 17592186044416 then (page_Decode.l1 k x0 x7 x44 (IntKind.u64.wrap (x45 + 1)) bt422.2 x396000 x396001 (x396003 ++ [wrap64 (bt422.1)]) x396004 x396005 x396006 x396007) else (none)))) else (page_Decode.j2 k x0 x7 x393000 x396000 x396001 ([] : List ByteArray) x396003 x396004 x396005 x396006 x396007)
end
def page_Decode.f (k : Nat) (l0 : List Int) : Option (Int × List ByteArray × List ByteArray × List Int × Int × Int × Int × Int × Int × Int) := (num_Read.f l0).bind fun t391 => ((num_Reader_Num.f t391 4).bind fun bt393 => ((num_Reader_Num.f bt393.2 9223372036854775807).bind fun bt396 => (if (wrap64 (bt393.1)) = 1 then ((num_Reader_Num.f bt396.2 6).bind fun bt398 => (page_Decode.l0 k l0 bt396.1 bt398.1 0 bt398.2 (wrap64 (bt393.1)) ([] : List ByteArray) ([] : List ByteArray) 0 0 0 0)) else (if (wrap64 (bt393.1)) = 2 then ((num_Reader_Num.f bt396.2 8).bind fun bt410 => (page_Decode.l1 k l0 bt396.1 bt410.1 0 bt410.2 (wrap64 (bt393.1)) ([] : List ByteArray) ([] : List Int) 0 0 0 0)) else (if (wrap64 (bt393.1)) = 3 then ((num_Reader_Num.f bt396.2 65535).bind fun bt427 => ((num_Reader_Num.f bt427.2 65535).bind fun bt429 => ((num_Reader_Num.f bt429.2 65536).bind fun bt431 => ((num_Reader_Num.f bt431.2 65536).bind fun bt433 => (page_Decode.j2 k l0 bt396.1 bt433.2 (wrap64 (bt393.1)) ([] : List ByteArray) ([] : List ByteArray) ([] : List Int) (wrap64 (bt427.1)) (wrap64 (bt429.1)) (wrap64 (bt431.1)) (wrap64 (bt433.1))))))) else (if (wrap64 (bt393.1)) = 4 then ((num_Reader_Num.f bt396.2 65535).bind fun bt435 => (page_Decode.j2 k l0 bt396.1 bt435.2 (wrap64 (bt393.1)) ([] : List ByteArray) ([] : List ByteArray) ([] : List Int) 0 (wrap64 (bt435.1)) 0 0)) else (page_Decode.j2 k l0 bt396.1 bt396.2 (wrap64 (bt393.1)) ([] : List ByteArray) ([] : List ByteArray) ([] : List Int) 0 0 0 0)))))))
theorem page_Decode.mono_l : ∀ k, (∀ y0 y1 y2 y3 y4 y5 y6 y7 y8 y9 y10, LeO (page_Decode.j2 k y0 y1 y2 y3 y4 y5 y6 y7 y8 y9 y10) (page_Decode.j2 (k + 1) y0 y1 y2 y3 y4 y5 y6 y7 y8 y9 y10)) ∧ (∀ y0 y1 y2 y3 y4 y5 y6 y7 y8 y9 y10 y11, LeO (page_Decode.l0 k y0 y1 y2 y3 y4 y5 y6 y7 y8 y9 y10 y11) (page_Decode.l0 (k + 1) y0 y1 y2 y3 y4 y5 y6 y7 y8 y9 y10 y11)) ∧ (∀ y0 y1 y2 y3 y4 y5 y6 y7 y8 y9 y10 y11, LeO (page_Decode.l1 k y0 y1 y2 y3 y4 y5 y6 y7 y8 y9 y10 y11) (page_Decode.l1 (k + 1) y0 y1 y2 y3 y4 y5 y6 y7 y8 y9 y10 y11))
  | 0 => ⟨fun _ _ _ _ _ _ _ _ _ _ _ r h => by simp [page_Decode.j2] at h, fun _ _ _ _ _ _ _ _ _ _ _ _ r h => by simp [page_Decode.l0] at h, fun _ _ _ _ _ _ _ _ _ _ _ _ r h => by simp [page_Decode.l1] at h⟩
  | k + 1 => by
    obtain ⟨ih0, ih1, ih2⟩ := page_Decode.mono_l k
    refine ⟨?_, ?_, ?_⟩
    · intro y0 y1 y2 y3 y4 y5 y6 y7 y8 y9 y10
      unfold page_Decode.j2
      repeat' first
      | (with_reducible exact ih0 _ _ _ _ _ _ _ _ _ _ _)
      | (with_reducible exact ih1 _ _ _ _ _ _ _ _ _ _ _ _)
      | (with_reducible exact ih2 _ _ _ _ _ _ _ _ _ _ _ _)
      | (with_reducible exact page_Page_Right.mono _ _ _ _ _ _ _ _ _)
      | (with_reducible exact LeO.refl _)
      | (with_reducible exact LeO.none _)
      | (with_reducible refine LeO.ite ?_ ?_)
      | (with_reducible refine LeO.bind ?_ (fun _ => ?_))
      | exact ih0 _ _ _ _ _ _ _ _ _ _ _
      | exact ih1 _ _ _ _ _ _ _ _ _ _ _ _
      | exact ih2 _ _ _ _ _ _ _ _ _ _ _ _
      | exact page_Page_Right.mono _ _ _ _ _ _ _ _ _
      | exact LeO.none _
      | refine LeO.ite ?_ ?_
      | refine LeO.bind ?_ (fun _ => ?_)
    · intro y0 y1 y2 y3 y4 y5 y6 y7 y8 y9 y10 y11
      unfold page_Decode.l0
      repeat' first
      | (with_reducible exact ih0 _ _ _ _ _ _ _ _ _ _ _)
      | (with_reducible exact ih1 _ _ _ _ _ _ _ _ _ _ _ _)
      | (with_reducible exact ih2 _ _ _ _ _ _ _ _ _ _ _ _)
      | (with_reducible exact page_Page_Right.mono _ _ _ _ _ _ _ _ _)
      | (with_reducible exact LeO.refl _)
      | (with_reducible exact LeO.none _)
      | (with_reducible refine LeO.ite ?_ ?_)
      | (with_reducible refine LeO.bind ?_ (fun _ => ?_))
      | exact ih0 _ _ _ _ _ _ _ _ _ _ _
      | exact ih1 _ _ _ _ _ _ _ _ _ _ _ _
      | exact ih2 _ _ _ _ _ _ _ _ _ _ _ _
      | exact page_Page_Right.mono _ _ _ _ _ _ _ _ _
      | exact LeO.none _
      | refine LeO.ite ?_ ?_
      | refine LeO.bind ?_ (fun _ => ?_)
    · intro y0 y1 y2 y3 y4 y5 y6 y7 y8 y9 y10 y11
      unfold page_Decode.l1
      repeat' first
      | (with_reducible exact ih0 _ _ _ _ _ _ _ _ _ _ _)
      | (with_reducible exact ih1 _ _ _ _ _ _ _ _ _ _ _ _)
      | (with_reducible exact ih2 _ _ _ _ _ _ _ _ _ _ _ _)
      | (with_reducible exact page_Page_Right.mono _ _ _ _ _ _ _ _ _)
      | (with_reducible exact LeO.refl _)
      | (with_reducible exact LeO.none _)
      | (with_reducible refine LeO.ite ?_ ?_)
      | (with_reducible refine LeO.bind ?_ (fun _ => ?_))
      | exact ih0 _ _ _ _ _ _ _ _ _ _ _
      | exact ih1 _ _ _ _ _ _ _ _ _ _ _ _
      | exact ih2 _ _ _ _ _ _ _ _ _ _ _ _
      | exact page_Page_Right.mono _ _ _ _ _ _ _ _ _
      | exact LeO.none _
      | refine LeO.ite ?_ ?_
      | refine LeO.bind ?_ (fun _ => ?_)
theorem page_Decode.mono : ∀ a0 k, LeO (page_Decode.f k a0) (page_Decode.f (k + 1) a0) := by
  intro a0 k
  obtain ⟨ih0, ih1, ih2⟩ := page_Decode.mono_l k
  unfold page_Decode.f
  repeat' first
      | (with_reducible exact ih0 _ _ _ _ _ _ _ _ _ _ _)
      | (with_reducible exact ih1 _ _ _ _ _ _ _ _ _ _ _ _)
      | (with_reducible exact ih2 _ _ _ _ _ _ _ _ _ _ _ _)
      | (with_reducible exact page_Page_Right.mono _ _ _ _ _ _ _ _ _)
      | (with_reducible exact LeO.refl _)
      | (with_reducible exact LeO.none _)
      | (with_reducible refine LeO.ite ?_ ?_)
      | (with_reducible refine LeO.bind ?_ (fun _ => ?_))
      | exact ih0 _ _ _ _ _ _ _ _ _ _ _
      | exact ih1 _ _ _ _ _ _ _ _ _ _ _ _
      | exact ih2 _ _ _ _ _ _ _ _ _ _ _ _
      | exact page_Page_Right.mono _ _ _ _ _ _ _ _ _
      | exact LeO.none _
      | refine LeO.ite ?_ ?_
      | refine LeO.bind ?_ (fun _ => ?_)
def page_Decode.T8 : Bool × List (List Nat × List Nat) := (true, [([], []), ([0], [0]), ([], []), ([2], [2]), ([3], [3]), ([1, 4, 3], [1, 4]), ([0, 1, 2, 3, 4, 5], []), ([6, 5, 5, 0, 1, 2, 3, 4, 5], [5, 6])])
def page_Decode.B8 : List Nat := [0, 1, 0, 4, 12, 31, 63, 127]
theorem page_Decode.tab8 : rtab .any (opsOf Try.f23 8) = page_Decode.T8 := by kernel_rfl
theorem page_Decode.bits8 : waitsOk page_Decode.T8.2 page_Decode.B8 = true := by kernel_rfl
def page_Decode.T9 : Bool × List (List Nat × List Nat) := (true, [([], []), ([0], [0]), ([], []), ([2], [2]), ([3], [3]), ([1, 4, 3], [1, 4]), ([0, 1, 2, 3, 4, 5], []), ([6, 5, 5, 0, 1, 2, 3, 4, 5], [5, 6])])
def page_Decode.B9 : List Nat := [0, 1, 0, 4, 12, 31, 63, 127]
theorem page_Decode.tab9 : rtab .any (opsOf Try.f23 9) = page_Decode.T9 := by kernel_rfl
theorem page_Decode.bits9 : waitsOk page_Decode.T9.2 page_Decode.B9 = true := by kernel_rfl
def page_Decode.T16 : Bool × List (List Nat × List Nat) := (true, [([], []), ([0], [0]), ([], []), ([2], [2]), ([3], [3]), ([1, 4, 3], [1, 4]), ([0, 1, 2, 3, 4, 5], []), ([6, 5, 5, 0, 1, 2, 3, 4, 5], [5, 6])])
def page_Decode.B16 : List Nat := [0, 1, 0, 4, 12, 31, 63, 127]
theorem page_Decode.tab16 : rtab .any (opsOf Try.f23 16) = page_Decode.T16 := by kernel_rfl
theorem page_Decode.bits16 : waitsOk page_Decode.T16.2 page_Decode.B16 = true := by kernel_rfl
def page_Decode.T17 : Bool × List (List Nat × List Nat) := (true, [([], []), ([0], [0]), ([], []), ([2], [2]), ([3], [3]), ([4], [4]), ([1, 5, 3], [1, 5]), ([0, 1, 2, 3, 4, 5, 6], []), ([7, 6, 6, 0, 1, 2, 3, 4, 5, 6], [6, 7])])
def page_Decode.B17 : List Nat := [0, 1, 0, 4, 12, 28, 63, 127, 255]
theorem page_Decode.tab17 : rtab .any (opsOf Try.f23 17) = page_Decode.T17 := by kernel_rfl
theorem page_Decode.bits17 : waitsOk page_Decode.T17.2 page_Decode.B17 = true := by kernel_rfl
set_option maxHeartbeats 8000000 in
set_option maxRecDepth 100000 in
theorem page_Decode.calls (k : Nat) (A0 : Option Addr) (c0 : Nat) (l0 : List Int) (r1 : Int) (r2 : List ByteArray) (r3 : List ByteArray) (r4 : List Int) (r5 : Int) (r6 : Int) (r7 : Int) (r8 : Int) (r9 : Int) (r10 : Int) (w : World) (hr0 : Kd.C (Kd.int .u8) w A0 l0.length l0) (hc0 : l0.length ≤ c0) (h : page_Decode.f k l0 = some (r1, r2, r3, r4, r5, r6, r7, r8, r9, r10)) :
    Calls Try.prog 23 #[.slice A0 l0.length c0] w fun e w' => ∃ v1_ v2_ v3_ : Value, e = .returned (.tuple #[.agg #[.int .i64 r1, v1_, v2_, v3_, .int .i64 r5, .int .i64 r6, .int .i64 r7, .int .i64 r8], .int .u64 r9, .int .i64 r10]) ∧ Kd.R Kd.string 9 w' w.heap.size (fun k_ => some k_ ≠ (v2_ : Value).ownBlock) v1_ r2 ∧ Kd.R Kd.string 9 w' w.heap.size (fun k_ => some k_ ≠ (v1_ : Value).ownBlock) v2_ r3 ∧ Kd.R (Kd.int .i64) 3 w' w.heap.size (fun _ => True) v3_ r4 ∧ Below w.heap.size w w' := by
  have hu27 := Try.underlying27
  have HR0 := Aside0.mk hr0
  have HC0 := Aside0.mk hc0
  clear hr0 hc0
  have HB := Aside0.mk (Below.refl w.heap.size w)
  have H : ((num_Read.f l0).bind fun t391 => ((num_Reader_Num.f t391 4).bind fun bt393 => ((num_Reader_Num.f bt393.2 9223372036854775807).bind fun bt396 => (if (wrap64 (bt393.1)) = 1 then ((num_Reader_Num.f bt396.2 6).bind fun bt398 => (page_Decode.l0 k l0 bt396.1 bt398.1 0 bt398.2 (wrap64 (bt393.1)) ([] : List ByteArray) ([] : List ByteArray) 0 0 0 0)) else (if (wrap64 (bt393.1)) = 2 then ((num_Reader_Num.f bt396.2 8).bind fun bt410 => (page_Decode.l1 k l0 bt396.1 bt410.1 0 bt410.2 (wrap64 (bt393.1)) ([] : List ByteArray) ([] : List Int) 0 0 0 0)) else (if (wrap64 (bt393.1)) = 3 then ((num_Reader_Num.f bt396.2 65535).bind fun bt427 => ((num_Reader_Num.f bt427.2 65535).bind fun bt429 => ((num_Reader_Num.f bt429.2 65536).bind fun bt431 => ((num_Reader_Num.f bt431.2 65536).bind fun bt433 => (page_Decode.j2 k l0 bt396.1 bt433.2 (wrap64 (bt393.1)) ([] : List ByteArray) ([] : List ByteArray) ([] : List Int) (wrap64 (bt427.1)) (wrap64 (bt429.1)) (wrap64 (bt431.1)) (wrap64 (bt433.1))))))) else (if (wrap64 (bt393.1)) = 4 then ((num_Reader_Num.f bt396.2 65535).bind fun bt435 => (page_Decode.j2 k l0 bt396.1 bt435.2 (wrap64 (bt393.1)) ([] : List ByteArray) ([] : List ByteArray) ([] : List Int) 0 (wrap64 (bt435.1)) 0 0)) else (page_Decode.j2 k l0 bt396.1 bt396.2 (wrap64 (bt393.1)) ([] : List ByteArray) ([] : List ByteArray) ([] : List Int) 0 0 0 0)))))))) = some (r1, r2, r3, r4, r5, r6, r7, r8, r9, r10) := h
  clear h
  replace H := Option.bind_eq_some_iff.mp H
  obtain ⟨t391, A20, H⟩ := H
  replace H : ((num_Reader_Num.f t391 4).bind fun bt393 => ((num_Reader_Num.f bt393.2 9223372036854775807).bind fun bt396 => (if (wrap64 (bt393.1)) = 1 then ((num_Reader_Num.f bt396.2 6).bind fun bt398 => (page_Decode.l0 k l0 bt396.1 bt398.1 0 bt398.2 (wrap64 (bt393.1)) ([] : List ByteArray) ([] : List ByteArray) 0 0 0 0)) else (if (wrap64 (bt393.1)) = 2 then ((num_Reader_Num.f bt396.2 8).bind fun bt410 => (page_Decode.l1 k l0 bt396.1 bt410.1 0 bt410.2 (wrap64 (bt393.1)) ([] : List ByteArray) ([] : List Int) 0 0 0 0)) else (if (wrap64 (bt393.1)) = 3 then ((num_Reader_Num.f bt396.2 65535).bind fun bt427 => ((num_Reader_Num.f bt427.2 65535).bind fun bt429 => ((num_Reader_Num.f bt429.2 65536).bind fun bt431 => ((num_Reader_Num.f bt431.2 65536).bind fun bt433 => (page_Decode.j2 k l0 bt396.1 bt433.2 (wrap64 (bt393.1)) ([] : List ByteArray) ([] : List ByteArray) ([] : List Int) (wrap64 (bt427.1)) (wrap64 (bt429.1)) (wrap64 (bt431.1)) (wrap64 (bt433.1))))))) else (if (wrap64 (bt393.1)) = 4 then ((num_Reader_Num.f bt396.2 65535).bind fun bt435 => (page_Decode.j2 k l0 bt396.1 bt435.2 (wrap64 (bt393.1)) ([] : List ByteArray) ([] : List ByteArray) ([] : List Int) 0 (wrap64 (bt435.1)) 0 0)) else (page_Decode.j2 k l0 bt396.1 bt396.2 (wrap64 (bt393.1)) ([] : List ByteArray) ([] : List ByteArray) ([] : List Int) 0 0 0 0))))))) = some (r1, r2, r3, r4, r5, r6, r7, r8, r9, r10) := H
  have A2 := Aside0.mk A20
  clear A20
  replace H := Option.bind_eq_some_iff.mp H
  obtain ⟨⟨t393, t394⟩, A30, H⟩ := H
  replace H : ((num_Reader_Num.f t394 9223372036854775807).bind fun bt396 => (if (wrap64 (t393)) = 1 then ((num_Reader_Num.f bt396.2 6).bind fun bt398 => (page_Decode.l0 k l0 bt396.1 bt398.1 0 bt398.2 (wrap64 (t393)) ([] : List ByteArray) ([] : List ByteArray) 0 0 0 0)) else (if (wrap64 (t393)) = 2 then ((num_Reader_Num.f bt396.2 8).bind fun bt410 => (page_Decode.l1 k l0 bt396.1 bt410.1 0 bt410.2 (wrap64 (t393)) ([] : List ByteArray) ([] : List Int) 0 0 0 0)) else (if (wrap64 (t393)) = 3 then ((num_Reader_Num.f bt396.2 65535).bind fun bt427 => ((num_Reader_Num.f bt427.2 65535).bind fun bt429 => ((num_Reader_Num.f bt429.2 65536).bind fun bt431 => ((num_Reader_Num.f bt431.2 65536).bind fun bt433 => (page_Decode.j2 k l0 bt396.1 bt433.2 (wrap64 (t393)) ([] : List ByteArray) ([] : List ByteArray) ([] : List Int) (wrap64 (bt427.1)) (wrap64 (bt429.1)) (wrap64 (bt431.1)) (wrap64 (bt433.1))))))) else (if (wrap64 (t393)) = 4 then ((num_Reader_Num.f bt396.2 65535).bind fun bt435 => (page_Decode.j2 k l0 bt396.1 bt435.2 (wrap64 (t393)) ([] : List ByteArray) ([] : List ByteArray) ([] : List Int) 0 (wrap64 (bt435.1)) 0 0)) else (page_Decode.j2 k l0 bt396.1 bt396.2 (wrap64 (t393)) ([] : List ByteArray) ([] : List ByteArray) ([] : List Int) 0 0 0 0)))))) = some (r1, r2, r3, r4, r5, r6, r7, r8, r9, r10) := H
  have A3 := Aside0.mk A30
  clear A30
  replace H := Option.bind_eq_some_iff.mp H
  obtain ⟨⟨t396, t397⟩, A40, H⟩ := H
  replace H : (if (wrap64 (t393)) = 1 then ((num_Reader_Num.f t397 6).bind fun bt398 => (page_Decode.l0 k l0 t396 bt398.1 0 bt398.2 (wrap64 (t393)) ([] : List ByteArray) ([] : List ByteArray) 0 0 0 0)) else (if (wrap64 (t393)) = 2 then ((num_Reader_Num.f t397 8).bind fun bt410 => (page_Decode.l1 k l0 t396 bt410.1 0 bt410.2 (wrap64 (t393)) ([] : List ByteArray) ([] : List Int) 0 0 0 0)) else (if (wrap64 (t393)) = 3 then ((num_Reader_Num.f t397 65535).bind fun bt427 => ((num_Reader_Num.f bt427.2 65535).bind fun bt429 => ((num_Reader_Num.f bt429.2 65536).bind fun bt431 => ((num_Reader_Num.f bt431.2 65536).bind fun bt433 => (page_Decode.j2 k l0 t396 bt433.2 (wrap64 (t393)) ([] : List ByteArray) ([] : List ByteArray) ([] : List Int) (wrap64 (bt427.1)) (wrap64 (bt429.1)) (wrap64 (bt431.1)) (wrap64 (bt433.1))))))) else (if (wrap64 (t393)) = 4 then ((num_Reader_Num.f t397 65535).bind fun bt435 => (page_Decode.j2 k l0 t396 bt435.2 (wrap64 (t393)) ([] : List ByteArray) ([] : List ByteArray) ([] : List Int) 0 (wrap64 (bt435.1)) 0 0)) else (page_Decode.j2 k l0 t396 t397 (wrap64 (t393)) ([] : List ByteArray) ([] : List ByteArray) ([] : List Int) 0 0 0 0))))) = some (r1, r2, r3, r4, r5, r6, r7, r8, r9, r10) := H
  have A4 := Aside0.mk A40
  clear A40
  have HC5 := Aside0.mk H
  clear H
  go_enter Try.func23, Try.ntmps23
  go_upto_block 0 with (first | ((with_reducible refine gate_dst (N := 2) rfl ?_); refine box_event ?hg (N := 2) ?hd (cs := #[.int .i64 0, .slice none 0 0, .slice none 0 0, .slice none 0 0, .int .i64 0, .int .i64 0, .int .i64 0, .int .i64 0]) (t := 27) ?hr ?_; (case hd => rfl); (case hg => rfl); (case hr => first | (go_simp; done) | (go_simp; rfl)); intro gb390 hg w6 hbox hb; have n0_ := Aside0.mk (below_step (by repeat (first | (with_reducible first | exact HB.out | apply below_alloc | apply pw_below_drewN | apply below_drew1) | exact HB.out)) hb); have n1_ := Aside0.mk (hbox); have n2_ := Aside0.mk ((by rw [hg]; exact (below_size (by repeat (first | (with_reducible first | exact HB.out | apply below_alloc | apply pw_below_drewN | apply below_drew1) | exact HB.out))) : w.heap.size ≤ gb390)); have n3_ := Aside0.mk ((by rw [hg]; exact (below_size (by repeat (first | (with_reducible first | exact HB.out | apply below_alloc | apply pw_below_drewN | apply below_drew1) | exact HB.out))) : w.heap.size ≤ gb390)); clear HB; have HB := n0_; have BK390 := n1_; have GW390 := n2_; have GE390 := n3_; clear n0_ n1_ n2_ n3_; clear hb hbox hg) | ((with_reducible refine gate_callee (f := 48) rfl ?_); refine goesL_ (some 11) rfl rfl Try.func48 (by kernel_rfl) rfl #[.slice A0 l0.length c0] rfl (by (try simp only [List.map_toArray, List.map_cons, List.map_nil]); first | done | rfl | (simp only [List.length_drop, List.length_take]; rfl)) ?_; (with_reducible refine (num_Read.calls _ _ l0 t391 w _ ?side1 ?side2 ?side3 A2.out).mono ?_); (case side1 => repeat (first | (with_reducible first | exact HB.out | apply below_alloc | apply pw_below_drewN | apply below_drew1 | refine below_set ?_ GE390.out) | exact HB.out)); (case side2 => exact HR0.out); (case side3 => exact HC0.out); rintro e w7 ⟨g392, rfl, hi, hb, hb2⟩; refine ⟨_, rfl, ?_⟩; have n0_ := Aside0.mk (blk_below (g := gb390) (o := .cells #[.int .i64 0, .slice none 0 0, .slice none 0 0, .slice none 0 0, .int .i64 0, .int .i64 0, .int .i64 0, .int .i64 0] 27 (0, 0)) (by (with_reducible repeat (first | refine blk_drewN ?_ _ | refine blk_drew ?_ | refine blk_alloc ?_ _)); exact BK390.out) hb2); have n1_ := Aside0.mk (hb); have n2_ := Aside0.mk (hi); have n3_ := Aside0.mk (IsS103.ne_blk hi (blk_below (g := gb390) (o := .cells #[.int .i64 0, .slice none 0 0, .slice none 0 0, .slice none 0 0, .int .i64 0, .int .i64 0, .int .i64 0, .int .i64 0] 27 (0, 0)) (by (with_reducible repeat (first | refine blk_drewN ?_ _ | refine blk_drew ?_ | refine blk_alloc ?_ _)); exact BK390.out) hb2) (by decide)); have n4_ := Aside0.mk (Ne.symm (IsS103.ne_blk hi (blk_below (g := gb390) (o := .cells #[.int .i64 0, .slice none 0 0, .slice none 0 0, .slice none 0 0, .int .i64 0, .int .i64 0, .int .i64 0, .int .i64 0] 27 (0, 0)) (by (with_reducible repeat (first | refine blk_drewN ?_ _ | refine blk_drew ?_ | refine blk_alloc ?_ _)); exact BK390.out) hb2) (by decide))); clear BK390; clear HB; have BK390 := n0_; have HB := n1_; have HI392 := n2_; have NB392_390 := n3_; have NB390_392 := n4_; clear n0_ n1_ n2_ n3_ n4_; (try clear hb); (try clear hb2); (try clear hk); (try clear hi)) | ((with_reducible refine gate_callee (f := 49) rfl ?_); refine goesL_ (some 13) rfl rfl Try.func49 (by kernel_rfl) rfl #[.pointer (some ⟨g392, 0, none⟩), .int .u64 4] rfl (by (try simp only [List.map_toArray, List.map_cons, List.map_nil]); first | done | rfl | (simp only [List.length_drop, List.length_take]; rfl)) ?_; (with_reducible refine (num_Reader_Num.calls g392 t391 4 t393 t394 w _ ?side1 ?side2 A3.out).mono ?_); (case side1 => repeat (first | (with_reducible first | exact HI392.out | apply IsS103.alloc | apply IsS103.drewN | apply IsS103.drew | apply IsS103.set_0 | refine IsS103.far ?_ NB392_390.out _) | exact HI392.out)); (case side2 => repeat (first | (with_reducible first | exact HB.out | apply below_alloc | apply pw_below_drewN | apply below_drew1 | refine below_set ?_ (IsS103.ge HI392.out) | refine below_set ?_ GE390.out) | exact HB.out)); rintro e w8 ⟨rfl, hi, hb, hk⟩; refine ⟨_, rfl, ?_⟩; have n0_ := Aside0.mk (KeepBut.blk hk (g' := gb390) (o := .cells #[.int .i64 0, .slice none 0 0, .slice none 0 0, .slice none 0 0, .int .i64 0, .int .i64 0, .int .i64 0, .int .i64 0] 27 (0, 0)) (by (with_reducible repeat (first | refine blk_drewN ?_ _ | refine blk_drew ?_ | refine blk_alloc ?_ _)); exact BK390.out) NB390_392.out (by simp)); have n1_ := Aside0.mk (hb); have n2_ := Aside0.mk (hi); clear BK390; clear HB; clear HI392; have BK390 := n0_; have HB := n1_; have HI392 := n2_; clear n0_ n1_ n2_; (try clear hb); (try clear hb2); (try clear hk); (try clear hi)) | ((with_reducible refine gate_dst (N := 6) rfl ?_); refine box_event ?hg (N := 6) ?hd (cs := #[.int .i64 0, .slice none 0 0, .slice none 0 0, .slice none 0 0, .int .i64 0, .int .i64 0, .int .i64 0, .int .i64 0]) (t := 27) ?hr ?_; (case hd => rfl); (case hg => rfl); (case hr => first | (go_simp; done) | (go_simp; rfl)); intro gb395 hg w9 hbox hb; have n0_ := Aside0.mk (blk_below (g := gb390) (o := .cells #[.int .i64 0, .slice none 0 0, .slice none 0 0, .slice none 0 0, .int .i64 0, .int .i64 0, .int .i64 0, .int .i64 0] 27 (0, 0)) (by (with_reducible repeat (first | refine blk_drewN ?_ _ | refine blk_drew ?_ | refine blk_alloc ?_ _)); exact BK390.out) hb); have n1_ := Aside0.mk (IsS103.below (by repeat (first | (with_reducible first | exact HI392.out | apply IsS103.alloc | apply IsS103.drewN | apply IsS103.drew | apply IsS103.set_0 | refine IsS103.far ?_ NB392_390.out _) | exact HI392.out)) hb); have n2_ := Aside0.mk (below_step (by repeat (first | (with_reducible first | exact HB.out | apply below_alloc | apply pw_below_drewN | apply below_drew1 | refine below_set ?_ (IsS103.ge HI392.out) | refine below_set ?_ GE390.out) | exact HB.out)) hb); have n3_ := Aside0.mk (hbox); have n4_ := Aside0.mk ((by rw [hg]; exact (below_size (by repeat (first | (with_reducible first | exact HB.out | apply below_alloc | apply pw_below_drewN | apply below_drew1 | refine below_set ?_ (IsS103.ge HI392.out) | refine below_set ?_ GE390.out) | exact HB.out))) : w.heap.size ≤ gb395)); have n5_ := Aside0.mk ((by rw [hg]; exact (below_size (by repeat (first | (with_reducible first | exact HB.out | apply below_alloc | apply pw_below_drewN | apply below_drew1 | refine below_set ?_ (IsS103.ge HI392.out) | refine below_set ?_ GE390.out) | exact HB.out))) : w.heap.size ≤ gb395)); have n6_ := Aside0.mk ((by rw [hg]; exact Nat.ne_of_lt (blk_lt (g := gb390) (o := .cells #[.int .i64 0, .slice none 0 0, .slice none 0 0, .slice none 0 0, .int .i64 0, .int .i64 0, .int .i64 0, .int .i64 0] 27 (0, 0)) (by (with_reducible repeat (first | refine blk_drewN ?_ _ | refine blk_drew ?_ | refine blk_alloc ?_ _)); exact BK390.out)) : gb390 ≠ gb395)); have n7_ := Aside0.mk ((by rw [hg]; exact Nat.ne_of_gt (blk_lt (g := gb390) (o := .cells #[.int .i64 0, .slice none 0 0, .slice none 0 0, .slice none 0 0, .int .i64 0, .int .i64 0, .int .i64 0, .int .i64 0] 27 (0, 0)) (by (with_reducible repeat (first | refine blk_drewN ?_ _ | refine blk_drew ?_ | refine blk_alloc ?_ _)); exact BK390.out)) : gb395 ≠ gb390)); have n8_ := Aside0.mk ((by rw [hg]; exact Nat.ne_of_lt (IsS103.lt (show IsS103 w _ g392 t394 from by repeat (first | (with_reducible first | exact HI392.out | apply IsS103.alloc | apply IsS103.drewN | apply IsS103.drew | apply IsS103.set_0 | refine IsS103.far ?_ NB392_390.out _) | exact HI392.out))) : g392 ≠ gb395)); have n9_ := Aside0.mk ((by rw [hg]; exact Nat.ne_of_gt (IsS103.lt (show IsS103 w _ g392 t394 from by repeat (first | (with_reducible first | exact HI392.out | apply IsS103.alloc | apply IsS103.drewN | apply IsS103.drew | apply IsS103.set_0 | refine IsS103.far ?_ NB392_390.out _) | exact HI392.out))) : gb395 ≠ g392)); clear BK390; clear HI392; clear HB; have BK390 := n0_; have HI392 := n1_; have HB := n2_; have BK395 := n3_; have GW395 := n4_; have GE395 := n5_; have NB390_395 := n6_; have NB395_390 := n7_; have NB392_395 := n8_; have NB395_392 := n9_; clear n0_ n1_ n2_ n3_ n4_ n5_ n6_ n7_ n8_ n9_; clear hb hbox hg; have hnb10 := NB395_390.out; have hnc10 := NB390_395.out; have hnb11 := NB395_392.out; have hnc11 := NB392_395.out; have hcz12_0 : w9.cell? ⟨gb395, 0, none⟩ = some (.int .i64 0) := (blk_cell BK395.out 0).trans rfl; have hcz12_1 : w9.cell? ⟨gb395, 1, none⟩ = some (.slice none 0 0) := (blk_cell BK395.out 1).trans rfl; have hcz12_2 : w9.cell? ⟨gb395, 2, none⟩ = some (.slice none 0 0) := (blk_cell BK395.out 2).trans rfl; have hcz12_3 : w9.cell? ⟨gb395, 3, none⟩ = some (.slice none 0 0) := (blk_cell BK395.out 3).trans rfl; have hcz12_4 : w9.cell? ⟨gb395, 4, none⟩ = some (.int .i64 0) := (blk_cell BK395.out 4).trans rfl; have hcz12_5 : w9.cell? ⟨gb395, 5, none⟩ = some (.int .i64 0) := (blk_cell BK395.out 5).trans rfl; have hcz12_6 : w9.cell? ⟨gb395, 6, none⟩ = some (.int .i64 0) := (blk_cell BK395.out 6).trans rfl; have hcz12_7 : w9.cell? ⟨gb395, 7, none⟩ = some (.int .i64 0) := (blk_cell BK395.out 7).trans rfl; have hfz12_0 := blk_frozen BK395.out 0; have hfz12_1 := blk_frozen BK395.out 1; have hfz12_2 := blk_frozen BK395.out 2; have hfz12_3 := blk_frozen BK395.out 3; have hfz12_4 := blk_frozen BK395.out 4; have hfz12_5 := blk_frozen BK395.out 5; have hfz12_6 := blk_frozen BK395.out 6; have hfz12_7 := blk_frozen BK395.out 7) | ((with_reducible refine gate_callee (f := 49) rfl ?_); refine goesL_ (some 17) rfl rfl Try.func49 (by kernel_rfl) rfl #[.pointer (some ⟨g392, 0, none⟩), .int .u64 9223372036854775807] rfl (by (try simp only [List.map_toArray, List.map_cons, List.map_nil]); first | done | rfl | (simp only [List.length_drop, List.length_take]; rfl)) ?_; (with_reducible refine (num_Reader_Num.calls g392 t394 9223372036854775807 t396 t397 w _ ?side1 ?side2 A4.out).mono ?_); (case side1 => repeat (first | (with_reducible first | exact HI392.out | apply IsS103.alloc | apply IsS103.drewN | apply IsS103.drew | apply IsS103.set_0 | refine IsS103.far ?_ NB392_390.out _ | refine IsS103.far ?_ NB392_395.out _) | exact HI392.out)); (case side2 => repeat (first | (with_reducible first | exact HB.out | apply below_alloc | apply pw_below_drewN | apply below_drew1 | refine below_set ?_ (IsS103.ge HI392.out) | refine below_set ?_ GE390.out | refine below_set ?_ GE395.out) | exact HB.out)); rintro e w13 ⟨rfl, hi, hb, hk⟩; refine ⟨_, rfl, ?_⟩; have n0_ := Aside0.mk (KeepBut.blk hk (g' := gb390) (o := .cells #[.int .i64 0, .slice none 0 0, .slice none 0 0, .slice none 0 0, .int .i64 0, .int .i64 0, .int .i64 0, .int .i64 0] 27 (0, 0)) (by (with_reducible repeat (first | refine blk_drewN ?_ _ | refine blk_drew ?_ | refine blk_alloc ?_ _)); refine blk_far ?_ NB390_395.out _; (with_reducible repeat (first | refine blk_drewN ?_ _ | refine blk_drew ?_ | refine blk_alloc ?_ _)); refine blk_far ?_ NB390_395.out _; (with_reducible repeat (first | refine blk_drewN ?_ _ | refine blk_drew ?_ | refine blk_alloc ?_ _)); refine blk_far ?_ NB390_395.out _; (with_reducible repeat (first | refine blk_drewN ?_ _ | refine blk_drew ?_ | refine blk_alloc ?_ _)); refine blk_far ?_ NB390_395.out _; (with_reducible repeat (first | refine blk_drewN ?_ _ | refine blk_drew ?_ | refine blk_alloc ?_ _)); refine blk_far ?_ NB390_395.out _; (with_reducible repeat (first | refine blk_drewN ?_ _ | refine blk_drew ?_ | refine blk_alloc ?_ _)); refine blk_far ?_ NB390_395.out _; (with_reducible repeat (first | refine blk_drewN ?_ _ | refine blk_drew ?_ | refine blk_alloc ?_ _)); refine blk_far ?_ NB390_395.out _; (with_reducible repeat (first | refine blk_drewN ?_ _ | refine blk_drew ?_ | refine blk_alloc ?_ _)); refine blk_far ?_ NB390_395.out _; (with_reducible repeat (first | refine blk_drewN ?_ _ | refine blk_drew ?_ | refine blk_alloc ?_ _)); exact BK390.out) NB390_392.out (by simp)); have n1_ := Aside0.mk (KeepBut.blk hk (g' := gb395) (o := .cells #[.int .i64 (wrap64 (t393)), .slice none 0 0, .slice none 0 0, .slice none 0 0, .int .i64 0, .int .i64 0, .int .i64 0, .int .i64 0] 27 (0, 0)) (by (with_reducible repeat (first | refine blk_drewN ?_ _ | refine blk_drew ?_ | refine blk_alloc ?_ _)); refine blk_put (cs := #[.int .i64 (wrap64 (t393)), .slice none 0 0, .slice none 0 0, .slice none 0 0, .int .i64 0, .int .i64 0, .int .i64 0, .int .i64 0]) ?_ 7 _ rfl; (with_reducible repeat (first | refine blk_drewN ?_ _ | refine blk_drew ?_ | refine blk_alloc ?_ _)); refine blk_put (cs := #[.int .i64 (wrap64 (t393)), .slice none 0 0, .slice none 0 0, .slice none 0 0, .int .i64 0, .int .i64 0, .int .i64 0, .int .i64 0]) ?_ 6 _ rfl; (with_reducible repeat (first | refine blk_drewN ?_ _ | refine blk_drew ?_ | refine blk_alloc ?_ _)); refine blk_put (cs := #[.int .i64 (wrap64 (t393)), .slice none 0 0, .slice none 0 0, .slice none 0 0, .int .i64 0, .int .i64 0, .int .i64 0, .int .i64 0]) ?_ 5 _ rfl; (with_reducible repeat (first | refine blk_drewN ?_ _ | refine blk_drew ?_ | refine blk_alloc ?_ _)); refine blk_put (cs := #[.int .i64 (wrap64 (t393)), .slice none 0 0, .slice none 0 0, .slice none 0 0, .int .i64 0, .int .i64 0, .int .i64 0, .int .i64 0]) ?_ 4 _ rfl; (with_reducible repeat (first | refine blk_drewN ?_ _ | refine blk_drew ?_ | refine blk_alloc ?_ _)); refine blk_put (cs := #[.int .i64 (wrap64 (t393)), .slice none 0 0, .slice none 0 0, .slice none 0 0, .int .i64 0, .int .i64 0, .int .i64 0, .int .i64 0]) ?_ 3 _ rfl; (with_reducible repeat (first | refine blk_drewN ?_ _ | refine blk_drew ?_ | refine blk_alloc ?_ _)); refine blk_put (cs := #[.int .i64 (wrap64 (t393)), .slice none 0 0, .slice none 0 0, .slice none 0 0, .int .i64 0, .int .i64 0, .int .i64 0, .int .i64 0]) ?_ 2 _ rfl; (with_reducible repeat (first | refine blk_drewN ?_ _ | refine blk_drew ?_ | refine blk_alloc ?_ _)); refine blk_put (cs := #[.int .i64 (wrap64 (t393)), .slice none 0 0, .slice none 0 0, .slice none 0 0, .int .i64 0, .int .i64 0, .int .i64 0, .int .i64 0]) ?_ 1 _ rfl; (with_reducible repeat (first | refine blk_drewN ?_ _ | refine blk_drew ?_ | refine blk_alloc ?_ _)); refine blk_put (cs := #[.int .i64 0, .slice none 0 0, .slice none 0 0, .slice none 0 0, .int .i64 0, .int .i64 0, .int .i64 0, .int .i64 0]) ?_ 0 _ rfl; (with_reducible repeat (first | refine blk_drewN ?_ _ | refine blk_drew ?_ | refine blk_alloc ?_ _)); exact BK395.out) NB395_392.out (by simp)); have n2_ := Aside0.mk (hb); have n3_ := Aside0.mk (hi); clear BK390; clear BK395; clear HB; clear HI392; have BK390 := n0_; have BK395 := n1_; have HB := n2_; have HI392 := n3_; clear n0_ n1_ n2_ n3_; (try clear hb); (try clear hb2); (try clear hk); (try clear hi); have hcz14_0 : w13.cell? ⟨gb395, 0, none⟩ = some (.int .i64 (wrap64 (t393))) := (blk_cell BK395.out 0).trans rfl; have hcz14_1 : w13.cell? ⟨gb395, 1, none⟩ = some (.slice none 0 0) := (blk_cell BK395.out 1).trans rfl; have hcz14_2 : w13.cell? ⟨gb395, 2, none⟩ = some (.slice none 0 0) := (blk_cell BK395.out 2).trans rfl; have hcz14_3 : w13.cell? ⟨gb395, 3, none⟩ = some (.slice none 0 0) := (blk_cell BK395.out 3).trans rfl; have hcz14_4 : w13.cell? ⟨gb395, 4, none⟩ = some (.int .i64 0) := (blk_cell BK395.out 4).trans rfl; have hcz14_5 : w13.cell? ⟨gb395, 5, none⟩ = some (.int .i64 0) := (blk_cell BK395.out 5).trans rfl; have hcz14_6 : w13.cell? ⟨gb395, 6, none⟩ = some (.int .i64 0) := (blk_cell BK395.out 6).trans rfl; have hcz14_7 : w13.cell? ⟨gb395, 7, none⟩ = some (.int .i64 0) := (blk_cell BK395.out 7).trans rfl; have hfz14_0 := blk_frozen BK395.out 0; have hfz14_1 := blk_frozen BK395.out 1; have hfz14_2 := blk_frozen BK395.out 2; have hfz14_3 := blk_frozen BK395.out 3; have hfz14_4 := blk_frozen BK395.out 4; have hfz14_5 := blk_frozen BK395.out 5; have hfz14_6 := blk_frozen BK395.out 6; have hfz14_7 := blk_frozen BK395.out 7))
  (try simp only [Act.put, List.setIfInBounds_toArray, List.set_cons_zero, List.set_cons_succ])
  go_cut [] (fun wc => ∃ (kq : Nat) (x393000_4 : RdS) (x396001_4 : List ByteArray) (x396002_4 : List ByteArray) (x396003_4 : List Int) (x396004_4 : Int) (x396005_4 : Int) (x396006_4 : Int) (x396007_4 : Int) (u396001 : Value) (u396002 : Value) (u396003 : Value), Aside0 (page_Decode.j2 kq l0 t396 x393000_4 (wrap64 (t393)) x396001_4 x396002_4 x396003_4 x396004_4 x396005_4 x396006_4 x396007_4 = some (r1, r2, r3, r4, r5, r6, r7, r8, r9, r10)) ∧ Aside0 (kq ≤ k) ∧ Aside0 (Kd.R Kd.string 9 wc w.heap.size (fun k_ => some k_ ≠ (u396002 : Value).ownBlock) u396001 x396001_4) ∧ Aside0 (Kd.R Kd.string 9 wc w.heap.size (fun k_ => some k_ ≠ (u396001 : Value).ownBlock) u396002 x396002_4) ∧ Aside0 (Kd.R (Kd.int .i64) 3 wc w.heap.size (fun _ => True) u396003 x396003_4) ∧ Aside0 (wc.heap[gb390]? = some (.cells #[.int .i64 0, (.slice none 0 0), (.slice none 0 0), (.slice none 0 0), .int .i64 0, .int .i64 0, .int .i64 0, .int .i64 0] 27 (0, 0))) ∧ Aside0 (wc.heap[gb395]? = some (.cells #[.int .i64 (wrap64 (t393)), u396001, u396002, u396003, .int .i64 x396004_4, .int .i64 x396005_4, .int .i64 x396006_4, .int .i64 x396007_4] 27 (0, 0))) ∧ Aside0 (IsS103 w wc g392 x393000_4) ∧ Aside0 (Below w.heap.size w wc))
  case first =>
    have H := HC5.out
    clear HC5
    by_cases c15 : (wrap64 (t393)) = 1
    · rw [if_pos c15] at H
      have c15b0 : ((wrap64 (t393)) == 1) = true := beq_iff_eq.mpr c15
      have c15b1 : ((wrap64 (t393)) != 1) = false := bne_eq_false_iff_eq.mpr c15
      clear c15
      (first | rw [c15b0] | (simp only [i64_w, i32_w]; rw [c15b0]) | skip)
      replace H := Option.bind_eq_some_iff.mp H
      obtain ⟨⟨t398, t399⟩, A160, H⟩ := H
      replace H : (page_Decode.l0 k l0 t396 t398 0 t399 (wrap64 (t393)) ([] : List ByteArray) ([] : List ByteArray) 0 0 0 0) = some (r1, r2, r3, r4, r5, r6, r7, r8, r9, r10) := H
      have A16 := Aside0.mk A160
      clear A160
      have H' := Aside0.mk H
      clear H
      go_wp2_with (first | ((with_reducible refine gate_callee (f := 49) rfl ?_); refine goesL_ (some 23) rfl rfl Try.func49 (by kernel_rfl) rfl #[.pointer (some ⟨g392, 0, none⟩), .int .u64 6] rfl (by (try simp only [List.map_toArray, List.map_cons, List.map_nil]); first | done | rfl | (simp only [List.length_drop, List.length_take]; rfl)) ?_; (with_reducible refine (num_Reader_Num.calls g392 t397 6 t398 t399 w _ ?side1 ?side2 A16.out).mono ?_); (case side1 => repeat (first | (with_reducible first | exact HI392.out | apply IsS103.alloc | apply IsS103.drewN | apply IsS103.drew | apply IsS103.set_0 | refine IsS103.far ?_ NB392_390.out _ | refine IsS103.far ?_ NB392_395.out _) | exact HI392.out)); (case side2 => repeat (first | (with_reducible first | exact HB.out | apply below_alloc | apply pw_below_drewN | apply below_drew1 | refine below_set ?_ (IsS103.ge HI392.out) | refine below_set ?_ GE390.out | refine below_set ?_ GE395.out) | exact HB.out)); rintro e w17 ⟨rfl, hi, hb, hk⟩; refine ⟨_, rfl, ?_⟩; have n0_ := Aside0.mk (KeepBut.blk hk (g' := gb390) (o := .cells #[.int .i64 0, .slice none 0 0, .slice none 0 0, .slice none 0 0, .int .i64 0, .int .i64 0, .int .i64 0, .int .i64 0] 27 (0, 0)) (by (with_reducible repeat (first | refine blk_drewN ?_ _ | refine blk_drew ?_ | refine blk_alloc ?_ _)); exact BK390.out) NB390_392.out (by simp)); have n1_ := Aside0.mk (KeepBut.blk hk (g' := gb395) (o := .cells #[.int .i64 (wrap64 (t393)), .slice none 0 0, .slice none 0 0, .slice none 0 0, .int .i64 0, .int .i64 0, .int .i64 0, .int .i64 0] 27 (0, 0)) (by (with_reducible repeat (first | refine blk_drewN ?_ _ | refine blk_drew ?_ | refine blk_alloc ?_ _)); exact BK395.out) NB395_392.out (by simp)); have n2_ := Aside0.mk (hb); have n3_ := Aside0.mk (hi); clear BK390; clear BK395; clear HB; clear HI392; have BK390 := n0_; have BK395 := n1_; have HB := n2_; have HI392 := n3_; clear n0_ n1_ n2_ n3_; (try clear hb); (try clear hb2); (try clear hk); (try clear hi)))
      go_loopg [24] k (fun kq v24 w' => ∃ (x24_1 : Int) (x393000_1 : RdS) (x396001_1 : List ByteArray) (x396002_1 : List ByteArray) (u396001 : Value) (u396002 : Value), v24 = .int .u64 x24_1 ∧ Aside0 (page_Decode.l0 kq l0 t396 t398 x24_1 x393000_1 (wrap64 (t393)) x396001_1 x396002_1 0 0 0 0 = some (r1, r2, r3, r4, r5, r6, r7, r8, r9, r10)) ∧ Aside0 (kq ≤ k) ∧ Aside0 (Kd.R Kd.string 9 w' w.heap.size (fun k_ => some k_ ≠ (u396002 : Value).ownBlock) u396001 x396001_1) ∧ Aside0 (Kd.R Kd.string 9 w' w.heap.size (fun k_ => some k_ ≠ (u396001 : Value).ownBlock) u396002 x396002_1) ∧ Aside0 (w'.heap[gb390]? = some (.cells #[.int .i64 0, (.slice none 0 0), (.slice none 0 0), (.slice none 0 0), .int .i64 0, .int .i64 0, .int .i64 0, .int .i64 0] 27 (0, 0))) ∧ Aside0 (w'.heap[gb395]? = some (.cells #[.int .i64 (wrap64 (t393)), u396001, u396002, (.slice none 0 0), .int .i64 0, .int .i64 0, .int .i64 0, .int .i64 0] 27 (0, 0))) ∧ Aside0 (IsS103 w w' g392 x393000_1) ∧ Aside0 (Below w.heap.size w w'))
      case atStart => exact ⟨(0), (t399), (([] : List ByteArray)), (([] : List ByteArray)), (.slice none 0 0), (.slice none 0 0), (by first | rfl | (simp; done) | (simp [*]; done)), H', ⟨Nat.le_refl _⟩, ⟨by first | exact Kd.R_nil _ _ _ _ _ | exact Kd.N_nil _ _ _ _ _ | exact Kd.V_nil _ _ _ _ _ | exact Kd.Q_nil _ _ _ _ _ | exact Kd.S_nil _ _ _ _ _⟩, ⟨by first | exact Kd.R_nil _ _ _ _ _ | exact Kd.N_nil _ _ _ _ _ | exact Kd.V_nil _ _ _ _ _ | exact Kd.Q_nil _ _ _ _ _ | exact Kd.S_nil _ _ _ _ _⟩, ⟨by (with_reducible repeat (first | refine blk_drewN ?_ _ | refine blk_drew ?_ | refine blk_alloc ?_ _)); exact BK390.out⟩, ⟨by (with_reducible repeat (first | refine blk_drewN ?_ _ | refine blk_drew ?_ | refine blk_alloc ?_ _)); exact BK395.out⟩, ⟨by repeat (first | (with_reducible first | exact HI392.out | apply IsS103.alloc | apply IsS103.drewN | apply IsS103.drew | apply IsS103.set_0 | refine IsS103.far ?_ NB392_390.out _ | refine IsS103.far ?_ NB392_395.out _) | exact HI392.out)⟩, ⟨by repeat (first | (with_reducible first | exact HB.out | apply below_alloc | apply pw_below_drewN | apply below_drew1 | refine below_set ?_ (IsS103.ge HI392.out) | refine below_set ?_ GE390.out | refine below_set ?_ GE395.out) | exact HB.out)⟩⟩
      case round =>
        clear H'
        try clear c1
        try clear c2
        try clear p2
        try clear c4
        try clear p6
        try clear c10
        try clear c11
        try clear c15
        try clear c15b0
        try clear c15b1
        try clear hcz12_0
        try clear hcz12_1
        try clear hcz12_2
        try clear hcz12_3
        try clear hcz12_4
        try clear hcz12_5
        try clear hcz12_6
        try clear hcz12_7
        try clear hcz14_0
        try clear hcz14_1
        try clear hcz14_2
        try clear hcz14_3
        try clear hcz14_4
        try clear hcz14_5
        try clear hcz14_6
        try clear hcz14_7
        try clear hfz12_0
        try clear hfz12_1
        try clear hfz12_2
        try clear hfz12_3
        try clear hfz12_4
        try clear hfz12_5
        try clear hfz12_6
        try clear hfz12_7
        try clear hfz14_0
        try clear hfz14_1
        try clear hfz14_2
        try clear hfz14_3
        try clear hfz14_4
        try clear hfz14_5
        try clear hfz14_6
        try clear hfz14_7
        obtain ⟨x24_1, x393000_1, x396001_1, x396002_1, u396001, u396002, rfl, HA, HK1, HO_396001, HO_396002, BK390, BK395, HI392, HB⟩ := hrel
        cases gk with
        | zero => exact absurd HA.out (by simp [page_Decode.l0])
        | succ k1 =>
          have H := HA.out
          clear HA
          simp only [page_Decode.l0] at H
          by_cases c18 : x24_1 < t398
          · rw [if_pos c18] at H
            have c18b0 : decide (x24_1 < t398) = true := decide_eq_true c18
            clear c18
            replace H := Option.bind_eq_some_iff.mp H
            obtain ⟨⟨t400, t401⟩, A190, H⟩ := H
            replace H : (if x396001_1.length < 8796093022208 then ((num_Reader_Text.f t401 48).bind fun bt405 => (if x396002_1.length < 8796093022208 then (page_Decode.l0 k1 l0 t396 t398 (IntKind.u64.wrap (x24_1 + 1)) bt405.2 (wrap64 (t393)) (x396001_1 ++ [t400]) (x396002_1 ++ [bt405.1]) 0 0 0 0) else (none))) else (none)) = some (r1, r2, r3, r4, r5, r6, r7, r8, r9, r10) := H
            have A19 := Aside0.mk A190
            clear A190
            by_cases c20 : x396001_1.length < 8796093022208
            · rw [if_pos c20] at H
              have LMc20 := Aside0.mk c20
              clear c20
              obtain ⟨y402, hy402⟩ : ∃ y_ : List ByteArray, y_ = (x396001_1 ++ [t400]) := ⟨_, rfl⟩
              replace H : ((num_Reader_Text.f t401 48).bind fun bt405 => (if x396002_1.length < 8796093022208 then (page_Decode.l0 k1 l0 t396 t398 (IntKind.u64.wrap (x24_1 + 1)) bt405.2 (wrap64 (t393)) y402 (x396002_1 ++ [bt405.1]) 0 0 0 0) else (none))) = some (r1, r2, r3, r4, r5, r6, r7, r8, r9, r10) := by first | (rw [hy402]; with_reducible exact H) | (have H2_ := (Option.bind_some _ _).symm.trans H; rw [hy402]; with_reducible exact H2_) | (have H2_ := (Option.bind_some _ _).symm.trans H; with_reducible exact H2_) | with_reducible exact H | (rw [hy402]; exact H) | exact H
              have Ny402 := Aside0.mk hy402
              clear hy402
              replace H := Option.bind_eq_some_iff.mp H
              obtain ⟨⟨t405, t406⟩, A210, H⟩ := H
              replace H : (if x396002_1.length < 8796093022208 then (page_Decode.l0 k1 l0 t396 t398 (IntKind.u64.wrap (x24_1 + 1)) t406 (wrap64 (t393)) y402 (x396002_1 ++ [t405]) 0 0 0 0) else (none)) = some (r1, r2, r3, r4, r5, r6, r7, r8, r9, r10) := H
              have A21 := Aside0.mk A210
              clear A210
              by_cases c22 : x396002_1.length < 8796093022208
              · rw [if_pos c22] at H
                have LMc22 := Aside0.mk c22
                clear c22
                obtain ⟨y407, hy407⟩ : ∃ y_ : List ByteArray, y_ = (x396002_1 ++ [t405]) := ⟨_, rfl⟩
                replace H : (page_Decode.l0 k1 l0 t396 t398 (IntKind.u64.wrap (x24_1 + 1)) t406 (wrap64 (t393)) y402 y407 0 0 0 0) = some (r1, r2, r3, r4, r5, r6, r7, r8, r9, r10) := by first | (rw [hy407]; with_reducible exact H) | (have H2_ := (Option.bind_some _ _).symm.trans H; rw [hy407]; with_reducible exact H2_) | (have H2_ := (Option.bind_some _ _).symm.trans H; with_reducible exact H2_) | with_reducible exact H | (rw [hy407]; exact H) | exact H
                have Ny407 := Aside0.mk hy407
                clear hy407
                have H' := Aside0.mk H
                clear H
                try go_wp2
                have n0_ := Aside0.mk (Kd.R_drew HO_396001.out)
                have n1_ := Aside0.mk (Kd.R_drew HO_396002.out)
                have n2_ := Aside0.mk (blk_drew BK390.out)
                have n3_ := Aside0.mk (blk_drew BK395.out)
                have n4_ := Aside0.mk (IsS103.drew HI392.out)
                have n5_ := Aside0.mk (below_drew1 HB.out)
                clear HO_396001
                clear HO_396002
                clear BK390
                clear BK395
                clear HI392
                clear HB
                have HO_396001 := n0_
                have HO_396002 := n1_
                have BK390 := n2_
                have BK395 := n3_
                have HI392 := n4_
                have HB := n5_
                clear n0_ n1_ n2_ n3_ n4_ n5_
                refine start_ (n := 8) (S := fun w' => w'.cell? ⟨gb395, 0, none⟩ = some (.int .i64 (wrap64 (t393))) ∧ w'.cell? ⟨gb395, 1, none⟩ = some (u396001) ∧ w'.cell? ⟨gb395, 2, none⟩ = some (u396002) ∧ w'.cell? ⟨gb395, 3, none⟩ = some (.slice none 0 0) ∧ w'.cell? ⟨gb395, 4, none⟩ = some (.int .i64 0) ∧ w'.cell? ⟨gb395, 5, none⟩ = some (.int .i64 0) ∧ w'.cell? ⟨gb395, 6, none⟩ = some (.int .i64 0) ∧ w'.cell? ⟨gb395, 7, none⟩ = some (.int .i64 0)) (ds := [7]) #[false, false, false, false, false, false, false, false] (by kernel_rfl) rfl rfl ⟨(blk_cell BK395.out 0).trans rfl, (blk_cell BK395.out 1).trans rfl, (blk_cell BK395.out 2).trans rfl, (blk_cell BK395.out 3).trans rfl, (blk_cell BK395.out 4).trans rfl, (blk_cell BK395.out 5).trans rfl, (blk_cell BK395.out 6).trans rfl, (blk_cell BK395.out 7).trans rfl⟩ (fun hHeld => ?_); refine with_tabW page_Decode.tab8 page_Decode.bits8 (fun HT_ HW_ => ?_)
                generalize wr.drew = w23 at HO_396001 HO_396002 BK390 BK395 HI392 HB hHeld ⊢
                refine pure_ (i := 0) (N := some 26) (v := ?_) (a' := ?_) #[true, false, false, false, false, false, false, false] rfl rfl (any_of HT_.out (by kernel_rfl)) (fun _ _ _ h => h) (Or.inl ⟨by rfl, ?_⟩) ?_ ?_
                rotate_left
                · intro w'
                  go_simp
                  with_reducible rfl
                rotate_left
                · simp only [Act.put, List.setIfInBounds_toArray, List.set_cons_zero, List.set_cons_succ, i64_w, i32_w]
                  rfl
                refine pure_ (i := 2) (N := some 28) (v := ?_) (a' := ?_) #[true, false, true, false, false, false, false, false] rfl rfl (any_of HT_.out (by kernel_rfl)) (fun _ _ _ h => h) (Or.inl ⟨by rfl, ?_⟩) ?_ ?_
                rotate_left
                · intro w'
                  go_simp
                  with_reducible rfl
                rotate_left
                · simp only [Act.put, List.setIfInBounds_toArray, List.set_cons_zero, List.set_cons_succ, i64_w, i32_w]
                  rfl
                refine take_ (i := 1) (N := some 27) (v := ?_) (a' := ?_) #[true, true, true, false, false, false, false, false] rfl rfl (take_ofW HT_.out HW_.out (by kernel_rfl)) (fun _ _ _ h => h) (Or.inl ⟨by rfl, ?_⟩) hHeld ?_ ?_
                rotate_left
                · rintro w' ⟨s0, s1, s2, s3, s4, s5, s6, s7⟩
                  go_simp
                  with_reducible rfl
                rotate_left
                · simp only [Act.put, List.setIfInBounds_toArray, List.set_cons_zero, List.set_cons_succ, i64_w, i32_w]
                  rfl
                refine one_ (i := 3) (N := some 29) #[true, true, true, true, false, false, false, false] rfl rfl (one_of HT_.out (by kernel_rfl)) (by decide) (fun K hK => ?_)
                refine goes_ Try.func50 (by kernel_rfl) rfl #[.pointer (some ⟨g392, 0, none⟩), .int .i64 24] (by rfl) rfl rfl (by (try simp only [List.map_toArray, List.map_cons, List.map_nil]); first | done | rfl | (simp only [List.length_drop, List.length_take]; rfl)) ?_
                with_reducible refine (num_Reader_Text.calls g392 x393000_1 24 t400 t401 w _ ?side1 ?side2 A19.out).mono ?_
                (case side1 => repeat (first | (with_reducible first | exact HI392.out | apply IsS103.alloc | apply IsS103.drewN | apply IsS103.drew | apply IsS103.set_0 | refine IsS103.far ?_ NB392_390.out _ | refine IsS103.far ?_ NB392_395.out _) | exact HI392.out))
                (case side2 => repeat (first | (with_reducible first | exact HB.out | apply below_alloc | apply pw_below_drewN | apply below_drew1 | refine below_set ?_ (IsS103.ge HI392.out) | refine below_set ?_ GE390.out | refine below_set ?_ GE395.out) | exact HB.out))
                rintro e w24 ⟨rfl, hi, hb, hk⟩
                refine ⟨_, rfl, ?_⟩
                have n0_ := Aside0.mk (Kd.R_mono (Kd.R_keep (IsS103.apart (show IsS103 w _ g392 x393000_1 from by repeat (first | (with_reducible first | exact HI392.out | apply IsS103.alloc | apply IsS103.drewN | apply IsS103.drew | apply IsS103.set_0 | refine IsS103.far ?_ NB392_390.out _ | refine IsS103.far ?_ NB392_395.out _) | exact HI392.out)) (by (with_reducible repeat (first | apply Kd.R_alloc | apply Kd.R_drewN | apply Kd.R_drew)); exact HO_396001.out) (by decide)) hk (fun _ h => h.2)) (fun _ h => h.1))
                have n1_ := Aside0.mk (Kd.R_mono (Kd.R_keep (IsS103.apart (show IsS103 w _ g392 x393000_1 from by repeat (first | (with_reducible first | exact HI392.out | apply IsS103.alloc | apply IsS103.drewN | apply IsS103.drew | apply IsS103.set_0 | refine IsS103.far ?_ NB392_390.out _ | refine IsS103.far ?_ NB392_395.out _) | exact HI392.out)) (by (with_reducible repeat (first | apply Kd.R_alloc | apply Kd.R_drewN | apply Kd.R_drew)); exact HO_396002.out) (by decide)) hk (fun _ h => h.2)) (fun _ h => h.1))
                have n2_ := Aside0.mk (KeepBut.blk hk (g' := gb390) (o := .cells #[.int .i64 0, .slice none 0 0, .slice none 0 0, .slice none 0 0, .int .i64 0, .int .i64 0, .int .i64 0, .int .i64 0] 27 (0, 0)) (by (with_reducible repeat (first | refine blk_drewN ?_ _ | refine blk_drew ?_ | refine blk_alloc ?_ _)); exact BK390.out) NB390_392.out (by simp))
                have n3_ := Aside0.mk (KeepBut.blk hk (g' := gb395) (o := .cells #[.int .i64 (wrap64 (t393)), u396001, u396002, .slice none 0 0, .int .i64 0, .int .i64 0, .int .i64 0, .int .i64 0] 27 (0, 0)) (by (with_reducible repeat (first | refine blk_drewN ?_ _ | refine blk_drew ?_ | refine blk_alloc ?_ _)); exact BK395.out) NB395_392.out (by simp))
                have n4_ := Aside0.mk (hb)
                have n5_ := Aside0.mk (hi)
                clear HO_396001
                clear HO_396002
                clear BK390
                clear BK395
                clear HB
                clear HI392
                have HO_396001 := n0_
                have HO_396002 := n1_
                have BK390 := n2_
                have BK395 := n3_
                have HB := n4_
                have HI392 := n5_
                clear n0_ n1_ n2_ n3_ n4_ n5_
                (try clear hb)
                (try clear hb2)
                (try clear hk)
                (try clear hi)
                refine hK.out _ _ ⟨(blk_cell BK395.out 0).trans rfl, (blk_cell BK395.out 1).trans rfl, (blk_cell BK395.out 2).trans rfl, (blk_cell BK395.out 3).trans rfl, (blk_cell BK395.out 4).trans rfl, (blk_cell BK395.out 5).trans rfl, (blk_cell BK395.out 6).trans rfl, (blk_cell BK395.out 7).trans rfl⟩ (fun hHeld => ?_)
                clear hK K
                refine norm_ (a' := ?_) ?_ ?_
                rotate_left
                · show Act.put _ (some 29) _ = _
                  simp only [Act.put, List.setIfInBounds_toArray, List.set_cons_zero, List.set_cons_succ, i64_w, i32_w]
                  rfl
                refine one_ (i := 4) (N := some 30) #[true, true, true, true, true, false, false, false] rfl rfl (one_of HT_.out (by kernel_rfl)) (by decide) (fun K hK => ?_)
                refine value_ (w1 := ?_) (v := ?_) (by rfl) rfl ?_ ?_
                rotate_left 2
                · go_simp
                  constructor
                  · rfl
                  · rfl
                refine hK.out _ _ ⟨(blk_cell (blk_alloc BK395.out _) 0).trans rfl, (blk_cell (blk_alloc BK395.out _) 1).trans rfl, (blk_cell (blk_alloc BK395.out _) 2).trans rfl, (blk_cell (blk_alloc BK395.out _) 3).trans rfl, (blk_cell (blk_alloc BK395.out _) 4).trans rfl, (blk_cell (blk_alloc BK395.out _) 5).trans rfl, (blk_cell (blk_alloc BK395.out _) 6).trans rfl, (blk_cell (blk_alloc BK395.out _) 7).trans rfl⟩ (fun hHeld => ?_)
                clear hK K
                refine norm_ (a' := ?_) ?_ ?_
                rotate_left
                · show Act.put _ (some 30) _ = _
                  simp only [Act.put, List.setIfInBounds_toArray, List.set_cons_zero, List.set_cons_succ, i64_w, i32_w]
                  rfl
                refine one_ (i := 5) (N := some 31) #[true, true, true, true, true, true, false, false] rfl rfl (one_of HT_.out (by kernel_rfl)) (by decide) (fun K hK => ?_)
                refine Kd.R_append_step Kd.string (w0 := w) w.heap.size (by rfl) (.tmp 27) (.tmp 30) 24 9 (.string ⟨#[]⟩) 16 rfl Try.underlying24 info9 rfl (by decide) (by omega) u396001 x396001_1 t400 [.string t400] (fun k_ => some k_ ≠ (u396002 : Value).ownBlock) (fun _ => False) rfl rfl ?aP (fun _ hk => hk.elim) ?aF ?aO ?aB ?aS ?aL ?_
                (case aP => exact rfl)
                (case aB => exact (by repeat (first | (with_reducible first | exact HB.out | apply below_alloc | apply pw_below_drewN | apply below_drew1 | refine below_set ?_ (IsS103.ge HI392.out) | refine below_set ?_ GE390.out | refine below_set ?_ GE395.out) | exact HB.out)))
                (case aF => exact (fun k_ hk => Kd.fresh' (Kd.R_lt (by (with_reducible repeat (first | apply Kd.R_alloc | apply Kd.R_drewN | apply Kd.R_drew)); exact HO_396002.out)) k_ hk))
                (case aO => exact (by (with_reducible repeat (first | apply Kd.R_alloc | apply Kd.R_drewN | apply Kd.R_drew)); exact HO_396001.out))
                (case aS => exact (below_size (by repeat (first | (with_reducible first | exact HB.out | apply below_alloc | apply pw_below_drewN | apply below_drew1 | refine below_set ?_ (IsS103.ge HI392.out) | refine below_set ?_ GE390.out | refine below_set ?_ GE395.out) | exact HB.out))))
                (case aL => have := LMc20.out; omega)
                intro v403 w25 ho hb hg hat
                rw [← Ny402.out] at ho
                have n0_ := Aside0.mk (Kd.R_after (ok := (fun _ => True)) (by (with_reducible repeat (first | apply Kd.R_alloc | apply Kd.R_drewN | apply Kd.R_drew)); exact Kd.R_mono HO_396002.out (fun _ hk => ⟨trivial, hk⟩)) hg hat)
                have n1_ := Aside0.mk (blk_grown (g := gb390) (o := .cells #[.int .i64 0, .slice none 0 0, .slice none 0 0, .slice none 0 0, .int .i64 0, .int .i64 0, .int .i64 0, .int .i64 0] 27 (0, 0)) (by (with_reducible repeat (first | refine blk_drewN ?_ _ | refine blk_drew ?_ | refine blk_alloc ?_ _)); exact BK390.out) hg (Kd.R_ne HO_396001.out BK390.out (by decide)))
                have n2_ := Aside0.mk (blk_grown (g := gb395) (o := .cells #[.int .i64 (wrap64 (t393)), u396001, u396002, .slice none 0 0, .int .i64 0, .int .i64 0, .int .i64 0, .int .i64 0] 27 (0, 0)) (by (with_reducible repeat (first | refine blk_drewN ?_ _ | refine blk_drew ?_ | refine blk_alloc ?_ _)); exact BK395.out) hg (Kd.R_ne HO_396001.out BK395.out (by decide)))
                have n3_ := Aside0.mk (IsS103.grown (by repeat (first | (with_reducible first | exact HI392.out | apply IsS103.alloc | apply IsS103.drewN | apply IsS103.drew | apply IsS103.set_0 | refine IsS103.far ?_ NB392_390.out _ | refine IsS103.far ?_ NB392_395.out _) | exact HI392.out)) hg (IsS103.own_ne HI392.out HO_396001.out (by decide)))
                have n4_ := Aside0.mk (hb)
                have n5_ := Aside0.mk (ho)
                clear HO_396002
                clear BK390
                clear BK395
                clear HI392
                clear HB
                clear HO_396001
                have HO_396002 := n0_
                have BK390 := n1_
                have BK395 := n2_
                have HI392 := n3_
                have HB := n4_
                have HO404 := n5_
                clear n0_ n1_ n2_ n3_ n4_ n5_
                clear ho hb hg hat
                obtain ⟨Ao26, co26, eo26⟩ := Kd.R_slice HO404.out
                (first | subst eo26 | (injection eo26 with f1_ f2_ f3_; have f4_ := f1_.symm; have f5_ := f3_.symm; clear f1_ f2_ f3_; subst f4_; subst f5_))
                refine hK.out _ _ ⟨(blk_cell BK395.out 0).trans rfl, (blk_cell BK395.out 1).trans rfl, (blk_cell BK395.out 2).trans rfl, (blk_cell BK395.out 3).trans rfl, (blk_cell BK395.out 4).trans rfl, (blk_cell BK395.out 5).trans rfl, (blk_cell BK395.out 6).trans rfl, (blk_cell BK395.out 7).trans rfl⟩ (fun hHeld => ?_)
                clear hK K
                refine norm_ (a' := ?_) ?_ ?_
                rotate_left
                · show Act.put _ (some 31) _ = _
                  simp only [Act.put, List.setIfInBounds_toArray, List.set_cons_zero, List.set_cons_succ, i64_w, i32_w]
                  rfl
                refine pure_ (i := 6) (N := some 32) (v := ?_) (a' := ?_) #[true, true, true, true, true, true, true, false] rfl rfl (any_of HT_.out (by kernel_rfl)) (fun _ _ _ h => h) (Or.inl ⟨by rfl, ?_⟩) ?_ ?_
                rotate_left
                · intro w'
                  go_simp
                  with_reducible rfl
                rotate_left
                · simp only [Act.put, List.setIfInBounds_toArray, List.set_cons_zero, List.set_cons_succ, i64_w, i32_w]
                  rfl
                refine last_ (i := 7) (N := none) #[true, true, true, true, true, true, true, true] rfl rfl (one_of HT_.out (by kernel_rfl)) (by decide) (fun K hK => ?_)
                have hs27 : w25.cell? ⟨gb395, 1, none⟩ = some (u396001) := (blk_cell BK395.out 1).trans rfl
                have hfs27 := blk_frozen BK395.out 1
                have hns27_0 := NB390_395.out
                have hms27_0 := NB395_390.out
                refine skip_ (w1 := ?_) (by rfl) rfl ?_ ?_
                rotate_left
                · go_simp
                  rfl
                refine hK.out _ _ ?_
                clear hK K
                refine done_ (done_of HT_.out (by kernel_rfl)) ?_
                try go_wp2
                have n0_ : Aside0 (Kd.R Kd.string 9 (w25.setCell ⟨gb395, 1, none⟩ (.slice Ao26 y402.length co26)) w.heap.size (fun k_ => some k_ ≠ (.slice Ao26 y402.length co26 : Value).ownBlock) u396002 x396002_1) := ⟨by (with_reducible repeat (first | apply Kd.R_alloc | apply Kd.R_drewN | apply Kd.R_drew)); exact Kd.R_mono (Kd.R_far (p := ⟨gb395, 1, none⟩) (Kd.R_types HO_396002.out BK395.out (by decide)) (fun _ hk => hk.2) (.slice Ao26 y402.length co26)) (fun _ hk => hk.1.2)⟩
                have n1_ : Aside0 (Kd.R Kd.string 9 (w25.setCell ⟨gb395, 1, none⟩ (.slice Ao26 y402.length co26)) w.heap.size (fun k_ => some k_ ≠ (u396002 : Value).ownBlock) (.slice Ao26 y402.length co26) y402) := ⟨by (with_reducible repeat (first | apply Kd.R_alloc | apply Kd.R_drewN | apply Kd.R_drew)); exact Kd.R_mono (Kd.R_far (p := ⟨gb395, 1, none⟩) (Kd.R_types HO404.out BK395.out (by decide)) (fun _ hk => hk.2) (.slice Ao26 y402.length co26)) (fun _ hk => hk.1)⟩
                have n2_ : Aside0 ((w25.setCell ⟨gb395, 1, none⟩ (.slice Ao26 y402.length co26)).heap[gb390]? = some (.cells #[.int .i64 0, .slice none 0 0, .slice none 0 0, .slice none 0 0, .int .i64 0, .int .i64 0, .int .i64 0, .int .i64 0] 27 (0, 0))) := ⟨by (with_reducible repeat (first | refine blk_drewN ?_ _ | refine blk_drew ?_ | refine blk_alloc ?_ _)); refine blk_far ?_ NB390_395.out _; (with_reducible repeat (first | refine blk_drewN ?_ _ | refine blk_drew ?_ | refine blk_alloc ?_ _)); exact BK390.out⟩
                have n3_ : Aside0 ((w25.setCell ⟨gb395, 1, none⟩ (.slice Ao26 y402.length co26)).heap[gb395]? = some (.cells #[.int .i64 (wrap64 (t393)), .slice Ao26 y402.length co26, u396002, .slice none 0 0, .int .i64 0, .int .i64 0, .int .i64 0, .int .i64 0] 27 (0, 0))) := ⟨by (with_reducible repeat (first | refine blk_drewN ?_ _ | refine blk_drew ?_ | refine blk_alloc ?_ _)); refine blk_put (cs := #[.int .i64 (wrap64 (t393)), u396001, u396002, .slice none 0 0, .int .i64 0, .int .i64 0, .int .i64 0, .int .i64 0]) ?_ 1 _ rfl; (with_reducible repeat (first | refine blk_drewN ?_ _ | refine blk_drew ?_ | refine blk_alloc ?_ _)); exact BK395.out⟩
                have n4_ : Aside0 (IsS103 w (w25.setCell ⟨gb395, 1, none⟩ (.slice Ao26 y402.length co26)) g392 t401) := ⟨by repeat (first | (with_reducible first | exact HI392.out | apply IsS103.alloc | apply IsS103.drewN | apply IsS103.drew | apply IsS103.set_0 | refine IsS103.far ?_ NB392_390.out _ | refine IsS103.far ?_ NB392_395.out _) | exact HI392.out)⟩
                have n5_ : Aside0 (Below w.heap.size w (w25.setCell ⟨gb395, 1, none⟩ (.slice Ao26 y402.length co26))) := ⟨by repeat (first | (with_reducible first | exact HB.out | apply below_alloc | apply pw_below_drewN | apply below_drew1 | refine below_set ?_ (IsS103.ge HI392.out) | refine below_set ?_ GE390.out | refine below_set ?_ GE395.out) | exact HB.out)⟩
                (try clear HO_396002)
                (try clear HO404)
                (try clear BK390)
                (try clear BK395)
                (try clear HI392)
                (try clear HB)
                generalize (w25.setCell ⟨gb395, 1, none⟩ (.slice Ao26 y402.length co26)) = w28 at n0_ n1_ n2_ n3_ n4_ n5_ ⊢
                have HO_396002 := n0_
                have HO404 := n1_
                have BK390 := n2_
                have BK395 := n3_
                have HI392 := n4_
                have HB := n5_
                clear n0_ n1_ n2_ n3_ n4_ n5_
                have n0_ := Aside0.mk (Kd.R_drew HO_396002.out)
                have n1_ := Aside0.mk (Kd.R_drew HO404.out)
                have n2_ := Aside0.mk (blk_drew BK390.out)
                have n3_ := Aside0.mk (blk_drew BK395.out)
                have n4_ := Aside0.mk (IsS103.drew HI392.out)
                have n5_ := Aside0.mk (below_drew1 HB.out)
                clear HO_396002
                clear HO404
                clear BK390
                clear BK395
                clear HI392
                clear HB
                have HO_396002 := n0_
                have HO404 := n1_
                have BK390 := n2_
                have BK395 := n3_
                have HI392 := n4_
                have HB := n5_
                clear n0_ n1_ n2_ n3_ n4_ n5_
                refine start_ (n := 8) (S := fun w' => w'.cell? ⟨gb395, 0, none⟩ = some (.int .i64 (wrap64 (t393))) ∧ w'.cell? ⟨gb395, 1, none⟩ = some (.slice Ao26 y402.length co26) ∧ w'.cell? ⟨gb395, 2, none⟩ = some (u396002) ∧ w'.cell? ⟨gb395, 3, none⟩ = some (.slice none 0 0) ∧ w'.cell? ⟨gb395, 4, none⟩ = some (.int .i64 0) ∧ w'.cell? ⟨gb395, 5, none⟩ = some (.int .i64 0) ∧ w'.cell? ⟨gb395, 6, none⟩ = some (.int .i64 0) ∧ w'.cell? ⟨gb395, 7, none⟩ = some (.int .i64 0)) (ds := [7]) #[false, false, false, false, false, false, false, false] (by kernel_rfl) rfl rfl ⟨(blk_cell BK395.out 0).trans rfl, (blk_cell BK395.out 1).trans rfl, (blk_cell BK395.out 2).trans rfl, (blk_cell BK395.out 3).trans rfl, (blk_cell BK395.out 4).trans rfl, (blk_cell BK395.out 5).trans rfl, (blk_cell BK395.out 6).trans rfl, (blk_cell BK395.out 7).trans rfl⟩ (fun hHeld => ?_); refine with_tabW page_Decode.tab9 page_Decode.bits9 (fun HT_ HW_ => ?_)
                generalize w28.drew = w29 at HO_396002 HO404 BK390 BK395 HI392 HB hHeld ⊢
                refine pure_ (i := 0) (N := some 33) (v := ?_) (a' := ?_) #[true, false, false, false, false, false, false, false] rfl rfl (any_of HT_.out (by kernel_rfl)) (fun _ _ _ h => h) (Or.inl ⟨by rfl, ?_⟩) ?_ ?_
                rotate_left
                · intro w'
                  go_simp
                  with_reducible rfl
                rotate_left
                · simp only [Act.put, List.setIfInBounds_toArray, List.set_cons_zero, List.set_cons_succ, i64_w, i32_w]
                  rfl
                refine pure_ (i := 2) (N := some 35) (v := ?_) (a' := ?_) #[true, false, true, false, false, false, false, false] rfl rfl (any_of HT_.out (by kernel_rfl)) (fun _ _ _ h => h) (Or.inl ⟨by rfl, ?_⟩) ?_ ?_
                rotate_left
                · intro w'
                  go_simp
                  with_reducible rfl
                rotate_left
                · simp only [Act.put, List.setIfInBounds_toArray, List.set_cons_zero, List.set_cons_succ, i64_w, i32_w]
                  rfl
                refine take_ (i := 1) (N := some 34) (v := ?_) (a' := ?_) #[true, true, true, false, false, false, false, false] rfl rfl (take_ofW HT_.out HW_.out (by kernel_rfl)) (fun _ _ _ h => h) (Or.inl ⟨by rfl, ?_⟩) hHeld ?_ ?_
                rotate_left
                · rintro w' ⟨s0, s1, s2, s3, s4, s5, s6, s7⟩
                  go_simp
                  with_reducible rfl
                rotate_left
                · simp only [Act.put, List.setIfInBounds_toArray, List.set_cons_zero, List.set_cons_succ, i64_w, i32_w]
                  rfl
                refine one_ (i := 3) (N := some 36) #[true, true, true, true, false, false, false, false] rfl rfl (one_of HT_.out (by kernel_rfl)) (by decide) (fun K hK => ?_)
                refine goes_ Try.func50 (by kernel_rfl) rfl #[.pointer (some ⟨g392, 0, none⟩), .int .i64 48] (by rfl) rfl rfl (by (try simp only [List.map_toArray, List.map_cons, List.map_nil]); first | done | rfl | (simp only [List.length_drop, List.length_take]; rfl)) ?_
                with_reducible refine (num_Reader_Text.calls g392 t401 48 t405 t406 w _ ?side1 ?side2 A21.out).mono ?_
                (case side1 => repeat (first | (with_reducible first | exact HI392.out | apply IsS103.alloc | apply IsS103.drewN | apply IsS103.drew | apply IsS103.set_0 | refine IsS103.far ?_ NB392_390.out _ | refine IsS103.far ?_ NB392_395.out _) | exact HI392.out))
                (case side2 => repeat (first | (with_reducible first | exact HB.out | apply below_alloc | apply pw_below_drewN | apply below_drew1 | refine below_set ?_ (IsS103.ge HI392.out) | refine below_set ?_ GE390.out | refine below_set ?_ GE395.out) | exact HB.out))
                rintro e w30 ⟨rfl, hi, hb, hk⟩
                refine ⟨_, rfl, ?_⟩
                have n0_ := Aside0.mk (Kd.R_mono (Kd.R_keep (IsS103.apart (show IsS103 w _ g392 t401 from by repeat (first | (with_reducible first | exact HI392.out | apply IsS103.alloc | apply IsS103.drewN | apply IsS103.drew | apply IsS103.set_0 | refine IsS103.far ?_ NB392_390.out _ | refine IsS103.far ?_ NB392_395.out _) | exact HI392.out)) (by (with_reducible repeat (first | apply Kd.R_alloc | apply Kd.R_drewN | apply Kd.R_drew)); exact HO_396002.out) (by decide)) hk (fun _ h => h.2)) (fun _ h => h.1))
                have n1_ := Aside0.mk (KeepBut.blk hk (g' := gb390) (o := .cells #[.int .i64 0, .slice none 0 0, .slice none 0 0, .slice none 0 0, .int .i64 0, .int .i64 0, .int .i64 0, .int .i64 0] 27 (0, 0)) (by (with_reducible repeat (first | refine blk_drewN ?_ _ | refine blk_drew ?_ | refine blk_alloc ?_ _)); exact BK390.out) NB390_392.out (by simp))
                have n2_ := Aside0.mk (KeepBut.blk hk (g' := gb395) (o := .cells #[.int .i64 (wrap64 (t393)), .slice Ao26 y402.length co26, u396002, .slice none 0 0, .int .i64 0, .int .i64 0, .int .i64 0, .int .i64 0] 27 (0, 0)) (by (with_reducible repeat (first | refine blk_drewN ?_ _ | refine blk_drew ?_ | refine blk_alloc ?_ _)); exact BK395.out) NB395_392.out (by simp))
                have n3_ := Aside0.mk (Kd.R_mono (Kd.R_keep (IsS103.apart (show IsS103 w _ g392 t401 from by repeat (first | (with_reducible first | exact HI392.out | apply IsS103.alloc | apply IsS103.drewN | apply IsS103.drew | apply IsS103.set_0 | refine IsS103.far ?_ NB392_390.out _ | refine IsS103.far ?_ NB392_395.out _) | exact HI392.out)) (by (with_reducible repeat (first | apply Kd.R_alloc | apply Kd.R_drewN | apply Kd.R_drew)); exact HO404.out) (by decide)) hk (fun _ h => h.2)) (fun _ h => h.1))
                have n4_ := Aside0.mk (hb)
                have n5_ := Aside0.mk (hi)
                clear HO_396002
                clear BK390
                clear BK395
                clear HO404
                clear HB
                clear HI392
                have HO_396002 := n0_
                have BK390 := n1_
                have BK395 := n2_
                have HO404 := n3_
                have HB := n4_
                have HI392 := n5_
                clear n0_ n1_ n2_ n3_ n4_ n5_
                (try clear hb)
                (try clear hb2)
                (try clear hk)
                (try clear hi)
                refine hK.out _ _ ⟨(blk_cell BK395.out 0).trans rfl, (blk_cell BK395.out 1).trans rfl, (blk_cell BK395.out 2).trans rfl, (blk_cell BK395.out 3).trans rfl, (blk_cell BK395.out 4).trans rfl, (blk_cell BK395.out 5).trans rfl, (blk_cell BK395.out 6).trans rfl, (blk_cell BK395.out 7).trans rfl⟩ (fun hHeld => ?_)
                clear hK K
                refine norm_ (a' := ?_) ?_ ?_
                rotate_left
                · show Act.put _ (some 36) _ = _
                  simp only [Act.put, List.setIfInBounds_toArray, List.set_cons_zero, List.set_cons_succ, i64_w, i32_w]
                  rfl
                refine one_ (i := 4) (N := some 37) #[true, true, true, true, true, false, false, false] rfl rfl (one_of HT_.out (by kernel_rfl)) (by decide) (fun K hK => ?_)
                refine value_ (w1 := ?_) (v := ?_) (by rfl) rfl ?_ ?_
                rotate_left 2
                · go_simp
                  constructor
                  · rfl
                  · rfl
                refine hK.out _ _ ⟨(blk_cell (blk_alloc BK395.out _) 0).trans rfl, (blk_cell (blk_alloc BK395.out _) 1).trans rfl, (blk_cell (blk_alloc BK395.out _) 2).trans rfl, (blk_cell (blk_alloc BK395.out _) 3).trans rfl, (blk_cell (blk_alloc BK395.out _) 4).trans rfl, (blk_cell (blk_alloc BK395.out _) 5).trans rfl, (blk_cell (blk_alloc BK395.out _) 6).trans rfl, (blk_cell (blk_alloc BK395.out _) 7).trans rfl⟩ (fun hHeld => ?_)
                clear hK K
                refine norm_ (a' := ?_) ?_ ?_
                rotate_left
                · show Act.put _ (some 37) _ = _
                  simp only [Act.put, List.setIfInBounds_toArray, List.set_cons_zero, List.set_cons_succ, i64_w, i32_w]
                  rfl
                refine one_ (i := 5) (N := some 38) #[true, true, true, true, true, true, false, false] rfl rfl (one_of HT_.out (by kernel_rfl)) (by decide) (fun K hK => ?_)
                refine Kd.R_append_step Kd.string (w0 := w) w.heap.size (by rfl) (.tmp 34) (.tmp 37) 24 9 (.string ⟨#[]⟩) 16 rfl Try.underlying24 info9 rfl (by decide) (by omega) u396002 x396002_1 t405 [.string t405] (fun k_ => some k_ ≠ (.slice Ao26 y402.length co26 : Value).ownBlock) (fun _ => False) rfl rfl ?aP (fun _ hk => hk.elim) ?aF ?aO ?aB ?aS ?aL ?_
                (case aP => exact rfl)
                (case aB => exact (by repeat (first | (with_reducible first | exact HB.out | apply below_alloc | apply pw_below_drewN | apply below_drew1 | refine below_set ?_ (IsS103.ge HI392.out) | refine below_set ?_ GE390.out | refine below_set ?_ GE395.out) | exact HB.out)))
                (case aF => exact (fun k_ hk => Kd.fresh' (Kd.R_lt (by (with_reducible repeat (first | apply Kd.R_alloc | apply Kd.R_drewN | apply Kd.R_drew)); exact HO404.out)) k_ hk))
                (case aO => exact (by (with_reducible repeat (first | apply Kd.R_alloc | apply Kd.R_drewN | apply Kd.R_drew)); exact HO_396002.out))
                (case aS => exact (below_size (by repeat (first | (with_reducible first | exact HB.out | apply below_alloc | apply pw_below_drewN | apply below_drew1 | refine below_set ?_ (IsS103.ge HI392.out) | refine below_set ?_ GE390.out | refine below_set ?_ GE395.out) | exact HB.out))))
                (case aL => have := LMc22.out; omega)
                intro v408 w31 ho hb hg hat
                rw [← Ny407.out] at ho
                have n0_ := Aside0.mk (blk_grown (g := gb390) (o := .cells #[.int .i64 0, .slice none 0 0, .slice none 0 0, .slice none 0 0, .int .i64 0, .int .i64 0, .int .i64 0, .int .i64 0] 27 (0, 0)) (by (with_reducible repeat (first | refine blk_drewN ?_ _ | refine blk_drew ?_ | refine blk_alloc ?_ _)); exact BK390.out) hg (Kd.R_ne HO_396002.out BK390.out (by decide)))
                have n1_ := Aside0.mk (blk_grown (g := gb395) (o := .cells #[.int .i64 (wrap64 (t393)), .slice Ao26 y402.length co26, u396002, .slice none 0 0, .int .i64 0, .int .i64 0, .int .i64 0, .int .i64 0] 27 (0, 0)) (by (with_reducible repeat (first | refine blk_drewN ?_ _ | refine blk_drew ?_ | refine blk_alloc ?_ _)); exact BK395.out) hg (Kd.R_ne HO_396002.out BK395.out (by decide)))
                have n2_ := Aside0.mk (IsS103.grown (by repeat (first | (with_reducible first | exact HI392.out | apply IsS103.alloc | apply IsS103.drewN | apply IsS103.drew | apply IsS103.set_0 | refine IsS103.far ?_ NB392_390.out _ | refine IsS103.far ?_ NB392_395.out _) | exact HI392.out)) hg (IsS103.own_ne HI392.out HO_396002.out (by decide)))
                have n3_ := Aside0.mk (Kd.R_after (ok := (fun _ => True)) (by (with_reducible repeat (first | apply Kd.R_alloc | apply Kd.R_drewN | apply Kd.R_drew)); exact Kd.R_mono HO404.out (fun _ hk => ⟨trivial, hk⟩)) hg hat)
                have n4_ := Aside0.mk (hb)
                have n5_ := Aside0.mk (ho)
                clear BK390
                clear BK395
                clear HI392
                clear HO404
                clear HB
                clear HO_396002
                have BK390 := n0_
                have BK395 := n1_
                have HI392 := n2_
                have HO404 := n3_
                have HB := n4_
                have HO409 := n5_
                clear n0_ n1_ n2_ n3_ n4_ n5_
                clear ho hb hg hat
                obtain ⟨Ao32, co32, eo32⟩ := Kd.R_slice HO409.out
                (first | subst eo32 | (injection eo32 with f1_ f2_ f3_; have f4_ := f1_.symm; have f5_ := f3_.symm; clear f1_ f2_ f3_; subst f4_; subst f5_))
                refine hK.out _ _ ⟨(blk_cell BK395.out 0).trans rfl, (blk_cell BK395.out 1).trans rfl, (blk_cell BK395.out 2).trans rfl, (blk_cell BK395.out 3).trans rfl, (blk_cell BK395.out 4).trans rfl, (blk_cell BK395.out 5).trans rfl, (blk_cell BK395.out 6).trans rfl, (blk_cell BK395.out 7).trans rfl⟩ (fun hHeld => ?_)
                clear hK K
                refine norm_ (a' := ?_) ?_ ?_
                rotate_left
                · show Act.put _ (some 38) _ = _
                  simp only [Act.put, List.setIfInBounds_toArray, List.set_cons_zero, List.set_cons_succ, i64_w, i32_w]
                  rfl
                refine pure_ (i := 6) (N := some 39) (v := ?_) (a' := ?_) #[true, true, true, true, true, true, true, false] rfl rfl (any_of HT_.out (by kernel_rfl)) (fun _ _ _ h => h) (Or.inl ⟨by rfl, ?_⟩) ?_ ?_
                rotate_left
                · intro w'
                  go_simp
                  with_reducible rfl
                rotate_left
                · simp only [Act.put, List.setIfInBounds_toArray, List.set_cons_zero, List.set_cons_succ, i64_w, i32_w]
                  rfl
                refine last_ (i := 7) (N := none) #[true, true, true, true, true, true, true, true] rfl rfl (one_of HT_.out (by kernel_rfl)) (by decide) (fun K hK => ?_)
                have hs33 : w31.cell? ⟨gb395, 2, none⟩ = some (u396002) := (blk_cell BK395.out 2).trans rfl
                have hfs33 := blk_frozen BK395.out 2
                have hns33_0 := NB390_395.out
                have hms33_0 := NB395_390.out
                refine skip_ (w1 := ?_) (by rfl) rfl ?_ ?_
                rotate_left
                · go_simp
                  rfl
                refine hK.out _ _ ?_
                clear hK K
                refine done_ (done_of HT_.out (by kernel_rfl)) ?_
                try go_wp2
                go_roundg k1
                case measure => have := HK1.out; omega
                case rel => exact ⟨(IntKind.u64.wrap (x24_1 + 1)), (t406), (y402), (y407), (.slice Ao26 y402.length co26), (.slice Ao32 y407.length co32), (by first | rfl | (simp; done) | (simp [*]; done)), H', ⟨by have := HK1.out; omega⟩, ⟨by (with_reducible repeat (first | apply Kd.R_alloc | apply Kd.R_drewN | apply Kd.R_drew)); exact Kd.R_mono (Kd.R_far (p := ⟨gb395, 2, none⟩) (Kd.R_types HO404.out BK395.out (by decide)) (fun _ hk => hk.2) (.slice Ao32 y407.length co32)) (fun _ hk => hk.1.2)⟩, ⟨by (with_reducible repeat (first | apply Kd.R_alloc | apply Kd.R_drewN | apply Kd.R_drew)); exact Kd.R_mono (Kd.R_far (p := ⟨gb395, 2, none⟩) (Kd.R_types HO409.out BK395.out (by decide)) (fun _ hk => hk.2) (.slice Ao32 y407.length co32)) (fun _ hk => hk.1)⟩, ⟨by (with_reducible repeat (first | refine blk_drewN ?_ _ | refine blk_drew ?_ | refine blk_alloc ?_ _)); refine blk_far ?_ NB390_395.out _; (with_reducible repeat (first | refine blk_drewN ?_ _ | refine blk_drew ?_ | refine blk_alloc ?_ _)); exact BK390.out⟩, ⟨by (with_reducible repeat (first | refine blk_drewN ?_ _ | refine blk_drew ?_ | refine blk_alloc ?_ _)); refine blk_put (cs := #[.int .i64 (wrap64 (t393)), .slice Ao26 y402.length co26, u396002, .slice none 0 0, .int .i64 0, .int .i64 0, .int .i64 0, .int .i64 0]) ?_ 2 _ rfl; (with_reducible repeat (first | refine blk_drewN ?_ _ | refine blk_drew ?_ | refine blk_alloc ?_ _)); exact BK395.out⟩, ⟨by repeat (first | (with_reducible first | exact HI392.out | apply IsS103.alloc | apply IsS103.drewN | apply IsS103.drew | apply IsS103.set_0 | refine IsS103.far ?_ NB392_390.out _ | refine IsS103.far ?_ NB392_395.out _) | exact HI392.out)⟩, ⟨by repeat (first | (with_reducible first | exact HB.out | apply below_alloc | apply pw_below_drewN | apply below_drew1 | refine below_set ?_ (IsS103.ge HI392.out) | refine below_set ?_ GE390.out | refine below_set ?_ GE395.out) | exact HB.out)⟩⟩
              · rw [if_neg c22] at H
                exact absurd H (by simp)
            · rw [if_neg c20] at H
              exact absurd H (by simp)
          · rw [if_neg c18] at H
            have c18b0 : decide (x24_1 < t398) = false := decide_eq_false c18
            clear c18
            have H' := Aside0.mk H
            clear H
            go_wp2
            go_meet
            case rel => exact ⟨_, (x393000_1), (x396001_1), (x396002_1), (([] : List Int)), (0), (0), (0), (0), (u396001), (u396002), (.slice none 0 0), H', ⟨by have := HK1.out; first | omega | exact Nat.le_refl _⟩, ⟨by (with_reducible repeat (first | apply Kd.R_alloc | apply Kd.R_drewN | apply Kd.R_drew)); exact HO_396001.out⟩, ⟨by (with_reducible repeat (first | apply Kd.R_alloc | apply Kd.R_drewN | apply Kd.R_drew)); exact HO_396002.out⟩, ⟨by first | exact Kd.R_nil _ _ _ _ _ | exact Kd.N_nil _ _ _ _ _ | exact Kd.V_nil _ _ _ _ _ | exact Kd.Q_nil _ _ _ _ _ | exact Kd.S_nil _ _ _ _ _⟩, ⟨by (with_reducible repeat (first | refine blk_drewN ?_ _ | refine blk_drew ?_ | refine blk_alloc ?_ _)); exact BK390.out⟩, ⟨by (with_reducible repeat (first | refine blk_drewN ?_ _ | refine blk_drew ?_ | refine blk_alloc ?_ _)); exact BK395.out⟩, ⟨by repeat (first | (with_reducible first | exact HI392.out | apply IsS103.alloc | apply IsS103.drewN | apply IsS103.drew | apply IsS103.set_0 | refine IsS103.far ?_ NB392_390.out _ | refine IsS103.far ?_ NB392_395.out _) | exact HI392.out)⟩, ⟨by repeat (first | (with_reducible first | exact HB.out | apply below_alloc | apply pw_below_drewN | apply below_drew1 | refine below_set ?_ (IsS103.ge HI392.out) | refine below_set ?_ GE390.out | refine below_set ?_ GE395.out) | exact HB.out)⟩⟩
    · rw [if_neg c15] at H
      have c15b0 : ((wrap64 (t393)) == 1) = false := beq_eq_false_iff_ne.mpr c15
      have c15b1 : ((wrap64 (t393)) != 1) = true := bne_iff_ne.mpr c15
      (first | rw [c15b0] | (simp only [i64_w, i32_w]; rw [c15b0]) | skip)
      by_cases c34 : (wrap64 (t393)) = 2
      · rw [if_pos c34] at H
        have c34b0 : ((wrap64 (t393)) == 2) = true := beq_iff_eq.mpr c34
        have c34b1 : ((wrap64 (t393)) != 2) = false := bne_eq_false_iff_eq.mpr c34
        clear c34
        replace H := Option.bind_eq_some_iff.mp H
        obtain ⟨⟨t410, t411⟩, A350, H⟩ := H
        replace H : (page_Decode.l1 k l0 t396 t410 0 t411 (wrap64 (t393)) ([] : List ByteArray) ([] : List Int) 0 0 0 0) = some (r1, r2, r3, r4, r5, r6, r7, r8, r9, r10) := H
        have A35 := Aside0.mk A350
        clear A350
        have H' := Aside0.mk H
        clear H
        go_wp2_with (first | ((with_reducible refine gate_callee (f := 49) rfl ?_); refine goesL_ (some 44) rfl rfl Try.func49 (by kernel_rfl) rfl #[.pointer (some ⟨g392, 0, none⟩), .int .u64 8] rfl (by (try simp only [List.map_toArray, List.map_cons, List.map_nil]); first | done | rfl | (simp only [List.length_drop, List.length_take]; rfl)) ?_; (with_reducible refine (num_Reader_Num.calls g392 t397 8 t410 t411 w _ ?side1 ?side2 A35.out).mono ?_); (case side1 => repeat (first | (with_reducible first | exact HI392.out | apply IsS103.alloc | apply IsS103.drewN | apply IsS103.drew | apply IsS103.set_0 | refine IsS103.far ?_ NB392_390.out _ | refine IsS103.far ?_ NB392_395.out _) | exact HI392.out)); (case side2 => repeat (first | (with_reducible first | exact HB.out | apply below_alloc | apply pw_below_drewN | apply below_drew1 | refine below_set ?_ (IsS103.ge HI392.out) | refine below_set ?_ GE390.out | refine below_set ?_ GE395.out) | exact HB.out)); rintro e w36 ⟨rfl, hi, hb, hk⟩; refine ⟨_, rfl, ?_⟩; have n0_ := Aside0.mk (KeepBut.blk hk (g' := gb390) (o := .cells #[.int .i64 0, .slice none 0 0, .slice none 0 0, .slice none 0 0, .int .i64 0, .int .i64 0, .int .i64 0, .int .i64 0] 27 (0, 0)) (by (with_reducible repeat (first | refine blk_drewN ?_ _ | refine blk_drew ?_ | refine blk_alloc ?_ _)); exact BK390.out) NB390_392.out (by simp)); have n1_ := Aside0.mk (KeepBut.blk hk (g' := gb395) (o := .cells #[.int .i64 (wrap64 (t393)), .slice none 0 0, .slice none 0 0, .slice none 0 0, .int .i64 0, .int .i64 0, .int .i64 0, .int .i64 0] 27 (0, 0)) (by (with_reducible repeat (first | refine blk_drewN ?_ _ | refine blk_drew ?_ | refine blk_alloc ?_ _)); exact BK395.out) NB395_392.out (by simp)); have n2_ := Aside0.mk (hb); have n3_ := Aside0.mk (hi); clear BK390; clear BK395; clear HB; clear HI392; have BK390 := n0_; have BK395 := n1_; have HB := n2_; have HI392 := n3_; clear n0_ n1_ n2_ n3_; (try clear hb); (try clear hb2); (try clear hk); (try clear hi)))
        go_loopg [45] k (fun kq v45 w' => ∃ (x45_1 : Int) (x393000_1 : RdS) (x396001_1 : List ByteArray) (x396003_1 : List Int) (u396001 : Value) (u396003 : Value), v45 = .int .u64 x45_1 ∧ Aside0 (page_Decode.l1 kq l0 t396 t410 x45_1 x393000_1 (wrap64 (t393)) x396001_1 x396003_1 0 0 0 0 = some (r1, r2, r3, r4, r5, r6, r7, r8, r9, r10)) ∧ Aside0 (kq ≤ k) ∧ Aside0 (Kd.R Kd.string 9 w' w.heap.size (fun _ => True) u396001 x396001_1) ∧ Aside0 (Kd.R (Kd.int .i64) 3 w' w.heap.size (fun _ => True) u396003 x396003_1) ∧ Aside0 (w'.heap[gb390]? = some (.cells #[.int .i64 0, (.slice none 0 0), (.slice none 0 0), (.slice none 0 0), .int .i64 0, .int .i64 0, .int .i64 0, .int .i64 0] 27 (0, 0))) ∧ Aside0 (w'.heap[gb395]? = some (.cells #[.int .i64 (wrap64 (t393)), u396001, (.slice none 0 0), u396003, .int .i64 0, .int .i64 0, .int .i64 0, .int .i64 0] 27 (0, 0))) ∧ Aside0 (IsS103 w w' g392 x393000_1) ∧ Aside0 (Below w.heap.size w w'))
        case atStart => exact ⟨(0), (t411), (([] : List ByteArray)), (([] : List Int)), (.slice none 0 0), (.slice none 0 0), (by first | rfl | (simp; done) | (simp [*]; done)), H', ⟨Nat.le_refl _⟩, ⟨by first | exact Kd.R_nil _ _ _ _ _ | exact Kd.N_nil _ _ _ _ _ | exact Kd.V_nil _ _ _ _ _ | exact Kd.Q_nil _ _ _ _ _ | exact Kd.S_nil _ _ _ _ _⟩, ⟨by first | exact Kd.R_nil _ _ _ _ _ | exact Kd.N_nil _ _ _ _ _ | exact Kd.V_nil _ _ _ _ _ | exact Kd.Q_nil _ _ _ _ _ | exact Kd.S_nil _ _ _ _ _⟩, ⟨by (with_reducible repeat (first | refine blk_drewN ?_ _ | refine blk_drew ?_ | refine blk_alloc ?_ _)); exact BK390.out⟩, ⟨by (with_reducible repeat (first | refine blk_drewN ?_ _ | refine blk_drew ?_ | refine blk_alloc ?_ _)); exact BK395.out⟩, ⟨by repeat (first | (with_reducible first | exact HI392.out | apply IsS103.alloc | apply IsS103.drewN | apply IsS103.drew | apply IsS103.set_0 | refine IsS103.far ?_ NB392_390.out _ | refine IsS103.far ?_ NB392_395.out _) | exact HI392.out)⟩, ⟨by repeat (first | (with_reducible first | exact HB.out | apply below_alloc | apply pw_below_drewN | apply below_drew1 | refine below_set ?_ (IsS103.ge HI392.out) | refine below_set ?_ GE390.out | refine below_set ?_ GE395.out) | exact HB.out)⟩⟩
        case round =>
          clear H'
          try clear c1
          try clear c2
          try clear p2
          try clear c3
          try clear c4
          try clear c5
          try clear p6
          try clear c10
          try clear c11
          try clear c15
          try clear c15b0
          try clear c15b1
          try clear c18
          try clear c18b0
          try clear c20
          try clear c22
          try clear c23
          try clear c34
          try clear c34b0
          try clear c34b1
          try clear hcz12_0
          try clear hcz12_1
          try clear hcz12_2
          try clear hcz12_3
          try clear hcz12_4
          try clear hcz12_5
          try clear hcz12_6
          try clear hcz12_7
          try clear hcz14_0
          try clear hcz14_1
          try clear hcz14_2
          try clear hcz14_3
          try clear hcz14_4
          try clear hcz14_5
          try clear hcz14_6
          try clear hcz14_7
          try clear hfz12_0
          try clear hfz12_1
          try clear hfz12_2
          try clear hfz12_3
          try clear hfz12_4
          try clear hfz12_5
          try clear hfz12_6
          try clear hfz12_7
          try clear hfz14_0
          try clear hfz14_1
          try clear hfz14_2
          try clear hfz14_3
          try clear hfz14_4
          try clear hfz14_5
          try clear hfz14_6
          try clear hfz14_7
          try clear p2
          try clear p6
          obtain ⟨x45_1, x393000_1, x396001_1, x396003_1, u396001, u396003, rfl, HA, HK1, HO_396001, HO_396003, BK390, BK395, HI392, HB⟩ := hrel
          cases gk with
          | zero => exact absurd HA.out (by simp [page_Decode.l1])
          | succ k1 =>
            have H := HA.out
            clear HA
            simp only [page_Decode.l1] at H
            by_cases c37 : x45_1 < t410
            · rw [if_pos c37] at H
              have c37b0 : decide (x45_1 < t410) = true := decide_eq_true c37
              clear c37
              by_cases c38 : x45_1 > 0
              · rw [if_pos c38] at H
                have c38b0 : decide (0 < x45_1) = true := decide_eq_true c38
                clear c38
                replace H := Option.bind_eq_some_iff.mp H
                obtain ⟨⟨t412, t413⟩, A390, H⟩ := H
                replace H : (if x396001_1.length < 8796093022208 then ((num_Reader_Num.f t413 65535).bind fun bt417 => (if x396003_1.length < 17592186044416 then (page_Decode.l1 k1 l0 t396 t410 (IntKind.u64.wrap (x45_1 + 1)) bt417.2 (wrap64 (t393)) (x396001_1 ++ [t412]) (x396003_1 ++ [wrap64 (bt417.1)]) 0 0 0 0) else (none))) else (none)) = some (r1, r2, r3, r4, r5, r6, r7, r8, r9, r10) := H
                have A39 := Aside0.mk A390
                clear A390
                by_cases c40 : x396001_1.length < 8796093022208
                · rw [if_pos c40] at H
                  have LMc40 := Aside0.mk c40
                  clear c40
                  obtain ⟨y414, hy414⟩ : ∃ y_ : List ByteArray, y_ = (x396001_1 ++ [t412]) := ⟨_, rfl⟩
                  replace H : ((num_Reader_Num.f t413 65535).bind fun bt417 => (if x396003_1.length < 17592186044416 then (page_Decode.l1 k1 l0 t396 t410 (IntKind.u64.wrap (x45_1 + 1)) bt417.2 (wrap64 (t393)) y414 (x396003_1 ++ [wrap64 (bt417.1)]) 0 0 0 0) else (none))) = some (r1, r2, r3, r4, r5, r6, r7, r8, r9, r10) := by first | (rw [hy414]; with_reducible exact H) | (have H2_ := (Option.bind_some _ _).symm.trans H; rw [hy414]; with_reducible exact H2_) | (have H2_ := (Option.bind_some _ _).symm.trans H; with_reducible exact H2_) | with_reducible exact H | (rw [hy414]; exact H) | exact H
                  have Ny414 := Aside0.mk hy414
                  clear hy414
                  replace H := Option.bind_eq_some_iff.mp H
                  obtain ⟨⟨t417, t418⟩, A410, H⟩ := H
                  replace H : (if x396003_1.length < 17592186044416 then (page_Decode.l1 k1 l0 t396 t410 (IntKind.u64.wrap (x45_1 + 1)) t418 (wrap64 (t393)) y414 (x396003_1 ++ [wrap64 (t417)]) 0 0 0 0) else (none)) = some (r1, r2, r3, r4, r5, r6, r7, r8, r9, r10) := H
                  have A41 := Aside0.mk A410
                  clear A410
                  by_cases c42 : x396003_1.length < 17592186044416
                  · rw [if_pos c42] at H
                    have LMc42 := Aside0.mk c42
                    clear c42
                    obtain ⟨y419, hy419⟩ : ∃ y_ : List Int, y_ = (x396003_1 ++ [wrap64 (t417)]) := ⟨_, rfl⟩
                    replace H : (page_Decode.l1 k1 l0 t396 t410 (IntKind.u64.wrap (x45_1 + 1)) t418 (wrap64 (t393)) y414 y419 0 0 0 0) = some (r1, r2, r3, r4, r5, r6, r7, r8, r9, r10) := by first | (rw [hy419]; with_reducible exact H) | (have H2_ := (Option.bind_some _ _).symm.trans H; rw [hy419]; with_reducible exact H2_) | (have H2_ := (Option.bind_some _ _).symm.trans H; with_reducible exact H2_) | with_reducible exact H | (rw [hy419]; exact H) | exact H
                    have Ny419 := Aside0.mk hy419
                    clear hy419
                    have H' := Aside0.mk H
                    clear H
                    try go_wp2
                    have n0_ := Aside0.mk (Kd.R_drew HO_396001.out)
                    have n1_ := Aside0.mk (Kd.R_drew HO_396003.out)
                    have n2_ := Aside0.mk (blk_drew BK390.out)
                    have n3_ := Aside0.mk (blk_drew BK395.out)
                    have n4_ := Aside0.mk (IsS103.drew HI392.out)
                    have n5_ := Aside0.mk (below_drew1 HB.out)
                    clear HO_396001
                    clear HO_396003
                    clear BK390
                    clear BK395
                    clear HI392
                    clear HB
                    have HO_396001 := n0_
                    have HO_396003 := n1_
                    have BK390 := n2_
                    have BK395 := n3_
                    have HI392 := n4_
                    have HB := n5_
                    clear n0_ n1_ n2_ n3_ n4_ n5_
                    refine start_ (n := 8) (S := fun w' => w'.cell? ⟨gb395, 0, none⟩ = some (.int .i64 (wrap64 (t393))) ∧ w'.cell? ⟨gb395, 1, none⟩ = some (u396001) ∧ w'.cell? ⟨gb395, 2, none⟩ = some (.slice none 0 0) ∧ w'.cell? ⟨gb395, 3, none⟩ = some (u396003) ∧ w'.cell? ⟨gb395, 4, none⟩ = some (.int .i64 0) ∧ w'.cell? ⟨gb395, 5, none⟩ = some (.int .i64 0) ∧ w'.cell? ⟨gb395, 6, none⟩ = some (.int .i64 0) ∧ w'.cell? ⟨gb395, 7, none⟩ = some (.int .i64 0)) (ds := [7]) #[false, false, false, false, false, false, false, false] (by kernel_rfl) rfl rfl ⟨(blk_cell BK395.out 0).trans rfl, (blk_cell BK395.out 1).trans rfl, (blk_cell BK395.out 2).trans rfl, (blk_cell BK395.out 3).trans rfl, (blk_cell BK395.out 4).trans rfl, (blk_cell BK395.out 5).trans rfl, (blk_cell BK395.out 6).trans rfl, (blk_cell BK395.out 7).trans rfl⟩ (fun hHeld => ?_); refine with_tabW page_Decode.tab16 page_Decode.bits16 (fun HT_ HW_ => ?_)
                    generalize wr.drew = w43 at HO_396001 HO_396003 BK390 BK395 HI392 HB hHeld ⊢
                    refine pure_ (i := 0) (N := some 50) (v := ?_) (a' := ?_) #[true, false, false, false, false, false, false, false] rfl rfl (any_of HT_.out (by kernel_rfl)) (fun _ _ _ h => h) (Or.inl ⟨by rfl, ?_⟩) ?_ ?_
                    rotate_left
                    · intro w'
                      go_simp
                      with_reducible rfl
                    rotate_left
                    · simp only [Act.put, List.setIfInBounds_toArray, List.set_cons_zero, List.set_cons_succ, i64_w, i32_w]
                      rfl
                    refine pure_ (i := 2) (N := some 52) (v := ?_) (a' := ?_) #[true, false, true, false, false, false, false, false] rfl rfl (any_of HT_.out (by kernel_rfl)) (fun _ _ _ h => h) (Or.inl ⟨by rfl, ?_⟩) ?_ ?_
                    rotate_left
                    · intro w'
                      go_simp
                      with_reducible rfl
                    rotate_left
                    · simp only [Act.put, List.setIfInBounds_toArray, List.set_cons_zero, List.set_cons_succ, i64_w, i32_w]
                      rfl
                    refine take_ (i := 1) (N := some 51) (v := ?_) (a' := ?_) #[true, true, true, false, false, false, false, false] rfl rfl (take_ofW HT_.out HW_.out (by kernel_rfl)) (fun _ _ _ h => h) (Or.inl ⟨by rfl, ?_⟩) hHeld ?_ ?_
                    rotate_left
                    · rintro w' ⟨s0, s1, s2, s3, s4, s5, s6, s7⟩
                      go_simp
                      with_reducible rfl
                    rotate_left
                    · simp only [Act.put, List.setIfInBounds_toArray, List.set_cons_zero, List.set_cons_succ, i64_w, i32_w]
                      rfl
                    refine one_ (i := 3) (N := some 53) #[true, true, true, true, false, false, false, false] rfl rfl (one_of HT_.out (by kernel_rfl)) (by decide) (fun K hK => ?_)
                    refine goes_ Try.func50 (by kernel_rfl) rfl #[.pointer (some ⟨g392, 0, none⟩), .int .i64 24] (by rfl) rfl rfl (by (try simp only [List.map_toArray, List.map_cons, List.map_nil]); first | done | rfl | (simp only [List.length_drop, List.length_take]; rfl)) ?_
                    with_reducible refine (num_Reader_Text.calls g392 x393000_1 24 t412 t413 w _ ?side1 ?side2 A39.out).mono ?_
                    (case side1 => repeat (first | (with_reducible first | exact HI392.out | apply IsS103.alloc | apply IsS103.drewN | apply IsS103.drew | apply IsS103.set_0 | refine IsS103.far ?_ NB392_390.out _ | refine IsS103.far ?_ NB392_395.out _) | exact HI392.out))
                    (case side2 => repeat (first | (with_reducible first | exact HB.out | apply below_alloc | apply pw_below_drewN | apply below_drew1 | refine below_set ?_ (IsS103.ge HI392.out) | refine below_set ?_ GE390.out | refine below_set ?_ GE395.out) | exact HB.out))
                    rintro e w44 ⟨rfl, hi, hb, hk⟩
                    refine ⟨_, rfl, ?_⟩
                    have n0_ := Aside0.mk (Kd.R_mono (Kd.R_keep (IsS103.apart (show IsS103 w _ g392 x393000_1 from by repeat (first | (with_reducible first | exact HI392.out | apply IsS103.alloc | apply IsS103.drewN | apply IsS103.drew | apply IsS103.set_0 | refine IsS103.far ?_ NB392_390.out _ | refine IsS103.far ?_ NB392_395.out _) | exact HI392.out)) (by (with_reducible repeat (first | apply Kd.R_alloc | apply Kd.R_drewN | apply Kd.R_drew)); exact HO_396001.out) (by decide)) hk (fun _ h => h.2)) (fun _ h => h.1))
                    have n1_ := Aside0.mk (Kd.R_mono (Kd.R_keep (IsS103.apart (show IsS103 w _ g392 x393000_1 from by repeat (first | (with_reducible first | exact HI392.out | apply IsS103.alloc | apply IsS103.drewN | apply IsS103.drew | apply IsS103.set_0 | refine IsS103.far ?_ NB392_390.out _ | refine IsS103.far ?_ NB392_395.out _) | exact HI392.out)) (by (with_reducible repeat (first | apply Kd.R_alloc | apply Kd.R_drewN | apply Kd.R_drew)); exact HO_396003.out) (by decide)) hk (fun _ h => h.2)) (fun _ h => h.1))
                    have n2_ := Aside0.mk (KeepBut.blk hk (g' := gb390) (o := .cells #[.int .i64 0, .slice none 0 0, .slice none 0 0, .slice none 0 0, .int .i64 0, .int .i64 0, .int .i64 0, .int .i64 0] 27 (0, 0)) (by (with_reducible repeat (first | refine blk_drewN ?_ _ | refine blk_drew ?_ | refine blk_alloc ?_ _)); exact BK390.out) NB390_392.out (by simp))
                    have n3_ := Aside0.mk (KeepBut.blk hk (g' := gb395) (o := .cells #[.int .i64 (wrap64 (t393)), u396001, .slice none 0 0, u396003, .int .i64 0, .int .i64 0, .int .i64 0, .int .i64 0] 27 (0, 0)) (by (with_reducible repeat (first | refine blk_drewN ?_ _ | refine blk_drew ?_ | refine blk_alloc ?_ _)); exact BK395.out) NB395_392.out (by simp))
                    have n4_ := Aside0.mk (hb)
                    have n5_ := Aside0.mk (hi)
                    clear HO_396001
                    clear HO_396003
                    clear BK390
                    clear BK395
                    clear HB
                    clear HI392
                    have HO_396001 := n0_
                    have HO_396003 := n1_
                    have BK390 := n2_
                    have BK395 := n3_
                    have HB := n4_
                    have HI392 := n5_
                    clear n0_ n1_ n2_ n3_ n4_ n5_
                    (try clear hb)
                    (try clear hb2)
                    (try clear hk)
                    (try clear hi)
                    refine hK.out _ _ ⟨(blk_cell BK395.out 0).trans rfl, (blk_cell BK395.out 1).trans rfl, (blk_cell BK395.out 2).trans rfl, (blk_cell BK395.out 3).trans rfl, (blk_cell BK395.out 4).trans rfl, (blk_cell BK395.out 5).trans rfl, (blk_cell BK395.out 6).trans rfl, (blk_cell BK395.out 7).trans rfl⟩ (fun hHeld => ?_)
                    clear hK K
                    refine norm_ (a' := ?_) ?_ ?_
                    rotate_left
                    · show Act.put _ (some 53) _ = _
                      simp only [Act.put, List.setIfInBounds_toArray, List.set_cons_zero, List.set_cons_succ, i64_w, i32_w]
                      rfl
                    refine one_ (i := 4) (N := some 54) #[true, true, true, true, true, false, false, false] rfl rfl (one_of HT_.out (by kernel_rfl)) (by decide) (fun K hK => ?_)
                    refine value_ (w1 := ?_) (v := ?_) (by rfl) rfl ?_ ?_
                    rotate_left 2
                    · go_simp
                      constructor
                      · rfl
                      · rfl
                    refine hK.out _ _ ⟨(blk_cell (blk_alloc BK395.out _) 0).trans rfl, (blk_cell (blk_alloc BK395.out _) 1).trans rfl, (blk_cell (blk_alloc BK395.out _) 2).trans rfl, (blk_cell (blk_alloc BK395.out _) 3).trans rfl, (blk_cell (blk_alloc BK395.out _) 4).trans rfl, (blk_cell (blk_alloc BK395.out _) 5).trans rfl, (blk_cell (blk_alloc BK395.out _) 6).trans rfl, (blk_cell (blk_alloc BK395.out _) 7).trans rfl⟩ (fun hHeld => ?_)
                    clear hK K
                    refine norm_ (a' := ?_) ?_ ?_
                    rotate_left
                    · show Act.put _ (some 54) _ = _
                      simp only [Act.put, List.setIfInBounds_toArray, List.set_cons_zero, List.set_cons_succ, i64_w, i32_w]
                      rfl
                    refine one_ (i := 5) (N := some 55) #[true, true, true, true, true, true, false, false] rfl rfl (one_of HT_.out (by kernel_rfl)) (by decide) (fun K hK => ?_)
                    refine Kd.R_append_step Kd.string (w0 := w) w.heap.size (by rfl) (.tmp 51) (.tmp 54) 24 9 (.string ⟨#[]⟩) 16 rfl Try.underlying24 info9 rfl (by decide) (by omega) u396001 x396001_1 t412 [.string t412] (fun _ => True) (fun _ => False) rfl rfl ?aP (fun _ hk => hk.elim) ?aF ?aO ?aB ?aS ?aL ?_
                    (case aP => exact rfl)
                    (case aB => exact (by repeat (first | (with_reducible first | exact HB.out | apply below_alloc | apply pw_below_drewN | apply below_drew1 | refine below_set ?_ (IsS103.ge HI392.out) | refine below_set ?_ GE390.out | refine below_set ?_ GE395.out) | exact HB.out)))
                    (case aF => exact (fun _ _ => trivial))
                    (case aO => exact (by (with_reducible repeat (first | apply Kd.R_alloc | apply Kd.R_drewN | apply Kd.R_drew)); exact HO_396001.out))
                    (case aS => exact (below_size (by repeat (first | (with_reducible first | exact HB.out | apply below_alloc | apply pw_below_drewN | apply below_drew1 | refine below_set ?_ (IsS103.ge HI392.out) | refine below_set ?_ GE390.out | refine below_set ?_ GE395.out) | exact HB.out))))
                    (case aL => have := LMc40.out; omega)
                    intro v415 w45 ho hb hg hat
                    rw [← Ny414.out] at ho
                    have n0_ := Aside0.mk (Kd.R_over' (by (with_reducible repeat (first | apply Kd.R_alloc | apply Kd.R_drewN | apply Kd.R_drew)); exact HO_396003.out) (Kd.R_typed (by (with_reducible repeat (first | apply Kd.R_alloc | apply Kd.R_drewN | apply Kd.R_drew)); exact HO_396001.out)) (by decide) hg)
                    have n1_ := Aside0.mk (blk_grown (g := gb390) (o := .cells #[.int .i64 0, .slice none 0 0, .slice none 0 0, .slice none 0 0, .int .i64 0, .int .i64 0, .int .i64 0, .int .i64 0] 27 (0, 0)) (by (with_reducible repeat (first | refine blk_drewN ?_ _ | refine blk_drew ?_ | refine blk_alloc ?_ _)); exact BK390.out) hg (Kd.R_ne HO_396001.out BK390.out (by decide)))
                    have n2_ := Aside0.mk (blk_grown (g := gb395) (o := .cells #[.int .i64 (wrap64 (t393)), u396001, .slice none 0 0, u396003, .int .i64 0, .int .i64 0, .int .i64 0, .int .i64 0] 27 (0, 0)) (by (with_reducible repeat (first | refine blk_drewN ?_ _ | refine blk_drew ?_ | refine blk_alloc ?_ _)); exact BK395.out) hg (Kd.R_ne HO_396001.out BK395.out (by decide)))
                    have n3_ := Aside0.mk (IsS103.grown (by repeat (first | (with_reducible first | exact HI392.out | apply IsS103.alloc | apply IsS103.drewN | apply IsS103.drew | apply IsS103.set_0 | refine IsS103.far ?_ NB392_390.out _ | refine IsS103.far ?_ NB392_395.out _) | exact HI392.out)) hg (IsS103.own_ne HI392.out HO_396001.out (by decide)))
                    have n4_ := Aside0.mk (hb)
                    have n5_ := Aside0.mk (ho)
                    clear HO_396003
                    clear BK390
                    clear BK395
                    clear HI392
                    clear HB
                    clear HO_396001
                    have HO_396003 := n0_
                    have BK390 := n1_
                    have BK395 := n2_
                    have HI392 := n3_
                    have HB := n4_
                    have HO416 := n5_
                    clear n0_ n1_ n2_ n3_ n4_ n5_
                    clear ho hb hg hat
                    obtain ⟨Ao46, co46, eo46⟩ := Kd.R_slice HO416.out
                    (first | subst eo46 | (injection eo46 with f1_ f2_ f3_; have f4_ := f1_.symm; have f5_ := f3_.symm; clear f1_ f2_ f3_; subst f4_; subst f5_))
                    refine hK.out _ _ ⟨(blk_cell BK395.out 0).trans rfl, (blk_cell BK395.out 1).trans rfl, (blk_cell BK395.out 2).trans rfl, (blk_cell BK395.out 3).trans rfl, (blk_cell BK395.out 4).trans rfl, (blk_cell BK395.out 5).trans rfl, (blk_cell BK395.out 6).trans rfl, (blk_cell BK395.out 7).trans rfl⟩ (fun hHeld => ?_)
                    clear hK K
                    refine norm_ (a' := ?_) ?_ ?_
                    rotate_left
                    · show Act.put _ (some 55) _ = _
                      simp only [Act.put, List.setIfInBounds_toArray, List.set_cons_zero, List.set_cons_succ, i64_w, i32_w]
                      rfl
                    refine pure_ (i := 6) (N := some 56) (v := ?_) (a' := ?_) #[true, true, true, true, true, true, true, false] rfl rfl (any_of HT_.out (by kernel_rfl)) (fun _ _ _ h => h) (Or.inl ⟨by rfl, ?_⟩) ?_ ?_
                    rotate_left
                    · intro w'
                      go_simp
                      with_reducible rfl
                    rotate_left
                    · simp only [Act.put, List.setIfInBounds_toArray, List.set_cons_zero, List.set_cons_succ, i64_w, i32_w]
                      rfl
                    refine last_ (i := 7) (N := none) #[true, true, true, true, true, true, true, true] rfl rfl (one_of HT_.out (by kernel_rfl)) (by decide) (fun K hK => ?_)
                    have hs47 : w45.cell? ⟨gb395, 1, none⟩ = some (u396001) := (blk_cell BK395.out 1).trans rfl
                    have hfs47 := blk_frozen BK395.out 1
                    have hns47_0 := NB390_395.out
                    have hms47_0 := NB395_390.out
                    refine skip_ (w1 := ?_) (by rfl) rfl ?_ ?_
                    rotate_left
                    · go_simp
                      rfl
                    refine hK.out _ _ ?_
                    clear hK K
                    refine done_ (done_of HT_.out (by kernel_rfl)) ?_
                    try go_wp2
                    have n0_ : Aside0 (Kd.R (Kd.int .i64) 3 (w45.setCell ⟨gb395, 1, none⟩ (.slice Ao46 y414.length co46)) w.heap.size (fun _ => True) u396003 x396003_1) := ⟨by (with_reducible repeat (first | apply Kd.R_alloc | apply Kd.R_drewN | apply Kd.R_drew)); exact Kd.R_mono (Kd.R_far (p := ⟨gb395, 1, none⟩) (Kd.R_types HO_396003.out BK395.out (by decide)) (fun _ hk => hk.2) (.slice Ao46 y414.length co46)) (fun _ hk => trivial)⟩
                    have n1_ : Aside0 (Kd.R Kd.string 9 (w45.setCell ⟨gb395, 1, none⟩ (.slice Ao46 y414.length co46)) w.heap.size (fun _ => True) (.slice Ao46 y414.length co46) y414) := ⟨by (with_reducible repeat (first | apply Kd.R_alloc | apply Kd.R_drewN | apply Kd.R_drew)); exact Kd.R_mono (Kd.R_far (p := ⟨gb395, 1, none⟩) (Kd.R_types HO416.out BK395.out (by decide)) (fun _ hk => hk.2) (.slice Ao46 y414.length co46)) (fun _ hk => trivial)⟩
                    have n2_ : Aside0 ((w45.setCell ⟨gb395, 1, none⟩ (.slice Ao46 y414.length co46)).heap[gb390]? = some (.cells #[.int .i64 0, .slice none 0 0, .slice none 0 0, .slice none 0 0, .int .i64 0, .int .i64 0, .int .i64 0, .int .i64 0] 27 (0, 0))) := ⟨by (with_reducible repeat (first | refine blk_drewN ?_ _ | refine blk_drew ?_ | refine blk_alloc ?_ _)); refine blk_far ?_ NB390_395.out _; (with_reducible repeat (first | refine blk_drewN ?_ _ | refine blk_drew ?_ | refine blk_alloc ?_ _)); exact BK390.out⟩
                    have n3_ : Aside0 ((w45.setCell ⟨gb395, 1, none⟩ (.slice Ao46 y414.length co46)).heap[gb395]? = some (.cells #[.int .i64 (wrap64 (t393)), .slice Ao46 y414.length co46, .slice none 0 0, u396003, .int .i64 0, .int .i64 0, .int .i64 0, .int .i64 0] 27 (0, 0))) := ⟨by (with_reducible repeat (first | refine blk_drewN ?_ _ | refine blk_drew ?_ | refine blk_alloc ?_ _)); refine blk_put (cs := #[.int .i64 (wrap64 (t393)), u396001, .slice none 0 0, u396003, .int .i64 0, .int .i64 0, .int .i64 0, .int .i64 0]) ?_ 1 _ rfl; (with_reducible repeat (first | refine blk_drewN ?_ _ | refine blk_drew ?_ | refine blk_alloc ?_ _)); exact BK395.out⟩
                    have n4_ : Aside0 (IsS103 w (w45.setCell ⟨gb395, 1, none⟩ (.slice Ao46 y414.length co46)) g392 t413) := ⟨by repeat (first | (with_reducible first | exact HI392.out | apply IsS103.alloc | apply IsS103.drewN | apply IsS103.drew | apply IsS103.set_0 | refine IsS103.far ?_ NB392_390.out _ | refine IsS103.far ?_ NB392_395.out _) | exact HI392.out)⟩
                    have n5_ : Aside0 (Below w.heap.size w (w45.setCell ⟨gb395, 1, none⟩ (.slice Ao46 y414.length co46))) := ⟨by repeat (first | (with_reducible first | exact HB.out | apply below_alloc | apply pw_below_drewN | apply below_drew1 | refine below_set ?_ (IsS103.ge HI392.out) | refine below_set ?_ GE390.out | refine below_set ?_ GE395.out) | exact HB.out)⟩
                    (try clear HO_396003)
                    (try clear HO416)
                    (try clear BK390)
                    (try clear BK395)
                    (try clear HI392)
                    (try clear HB)
                    generalize (w45.setCell ⟨gb395, 1, none⟩ (.slice Ao46 y414.length co46)) = w48 at n0_ n1_ n2_ n3_ n4_ n5_ ⊢
                    have HO_396003 := n0_
                    have HO416 := n1_
                    have BK390 := n2_
                    have BK395 := n3_
                    have HI392 := n4_
                    have HB := n5_
                    clear n0_ n1_ n2_ n3_ n4_ n5_
                    have n0_ := Aside0.mk (Kd.R_drew HO_396003.out)
                    have n1_ := Aside0.mk (Kd.R_drew HO416.out)
                    have n2_ := Aside0.mk (blk_drew BK390.out)
                    have n3_ := Aside0.mk (blk_drew BK395.out)
                    have n4_ := Aside0.mk (IsS103.drew HI392.out)
                    have n5_ := Aside0.mk (below_drew1 HB.out)
                    clear HO_396003
                    clear HO416
                    clear BK390
                    clear BK395
                    clear HI392
                    clear HB
                    have HO_396003 := n0_
                    have HO416 := n1_
                    have BK390 := n2_
                    have BK395 := n3_
                    have HI392 := n4_
                    have HB := n5_
                    clear n0_ n1_ n2_ n3_ n4_ n5_
                    refine start_ (n := 9) (S := fun w' => w'.cell? ⟨gb395, 0, none⟩ = some (.int .i64 (wrap64 (t393))) ∧ w'.cell? ⟨gb395, 1, none⟩ = some (.slice Ao46 y414.length co46) ∧ w'.cell? ⟨gb395, 2, none⟩ = some (.slice none 0 0) ∧ w'.cell? ⟨gb395, 3, none⟩ = some (u396003) ∧ w'.cell? ⟨gb395, 4, none⟩ = some (.int .i64 0) ∧ w'.cell? ⟨gb395, 5, none⟩ = some (.int .i64 0) ∧ w'.cell? ⟨gb395, 6, none⟩ = some (.int .i64 0) ∧ w'.cell? ⟨gb395, 7, none⟩ = some (.int .i64 0)) (ds := [8]) #[false, false, false, false, false, false, false, false, false] (by kernel_rfl) rfl rfl ⟨(blk_cell BK395.out 0).trans rfl, (blk_cell BK395.out 1).trans rfl, (blk_cell BK395.out 2).trans rfl, (blk_cell BK395.out 3).trans rfl, (blk_cell BK395.out 4).trans rfl, (blk_cell BK395.out 5).trans rfl, (blk_cell BK395.out 6).trans rfl, (blk_cell BK395.out 7).trans rfl⟩ (fun hHeld => ?_); refine with_tabW page_Decode.tab17 page_Decode.bits17 (fun HT_ HW_ => ?_)
                    generalize w48.drew = w49 at HO_396003 HO416 BK390 BK395 HI392 HB hHeld ⊢
                    refine pure_ (i := 0) (N := some 57) (v := ?_) (a' := ?_) #[true, false, false, false, false, false, false, false, false] rfl rfl (any_of HT_.out (by kernel_rfl)) (fun _ _ _ h => h) (Or.inl ⟨by rfl, ?_⟩) ?_ ?_
                    rotate_left
                    · intro w'
                      go_simp
                      with_reducible rfl
                    rotate_left
                    · simp only [Act.put, List.setIfInBounds_toArray, List.set_cons_zero, List.set_cons_succ, i64_w, i32_w]
                      rfl
                    refine pure_ (i := 2) (N := some 59) (v := ?_) (a' := ?_) #[true, false, true, false, false, false, false, false, false] rfl rfl (any_of HT_.out (by kernel_rfl)) (fun _ _ _ h => h) (Or.inl ⟨by rfl, ?_⟩) ?_ ?_
                    rotate_left
                    · intro w'
                      go_simp
                      with_reducible rfl
                    rotate_left
                    · simp only [Act.put, List.setIfInBounds_toArray, List.set_cons_zero, List.set_cons_succ, i64_w, i32_w]
                      rfl
                    refine take_ (i := 1) (N := some 58) (v := ?_) (a' := ?_) #[true, true, true, false, false, false, false, false, false] rfl rfl (take_ofW HT_.out HW_.out (by kernel_rfl)) (fun _ _ _ h => h) (Or.inl ⟨by rfl, ?_⟩) hHeld ?_ ?_
                    rotate_left
                    · rintro w' ⟨s0, s1, s2, s3, s4, s5, s6, s7⟩
                      go_simp
                      with_reducible rfl
                    rotate_left
                    · simp only [Act.put, List.setIfInBounds_toArray, List.set_cons_zero, List.set_cons_succ, i64_w, i32_w]
                      rfl
                    refine one_ (i := 3) (N := some 60) #[true, true, true, true, false, false, false, false, false] rfl rfl (one_of HT_.out (by kernel_rfl)) (by decide) (fun K hK => ?_)
                    refine goes_ Try.func49 (by kernel_rfl) rfl #[.pointer (some ⟨g392, 0, none⟩), .int .u64 65535] (by rfl) rfl rfl (by (try simp only [List.map_toArray, List.map_cons, List.map_nil]); first | done | rfl | (simp only [List.length_drop, List.length_take]; rfl)) ?_
                    with_reducible refine (num_Reader_Num.calls g392 t413 65535 t417 t418 w _ ?side1 ?side2 A41.out).mono ?_
                    (case side1 => repeat (first | (with_reducible first | exact HI392.out | apply IsS103.alloc | apply IsS103.drewN | apply IsS103.drew | apply IsS103.set_0 | refine IsS103.far ?_ NB392_390.out _ | refine IsS103.far ?_ NB392_395.out _) | exact HI392.out))
                    (case side2 => repeat (first | (with_reducible first | exact HB.out | apply below_alloc | apply pw_below_drewN | apply below_drew1 | refine below_set ?_ (IsS103.ge HI392.out) | refine below_set ?_ GE390.out | refine below_set ?_ GE395.out) | exact HB.out))
                    rintro e w50 ⟨rfl, hi, hb, hk⟩
                    refine ⟨_, rfl, ?_⟩
                    have n0_ := Aside0.mk (Kd.R_mono (Kd.R_keep (IsS103.apart (show IsS103 w _ g392 t413 from by repeat (first | (with_reducible first | exact HI392.out | apply IsS103.alloc | apply IsS103.drewN | apply IsS103.drew | apply IsS103.set_0 | refine IsS103.far ?_ NB392_390.out _ | refine IsS103.far ?_ NB392_395.out _) | exact HI392.out)) (by (with_reducible repeat (first | apply Kd.R_alloc | apply Kd.R_drewN | apply Kd.R_drew)); exact HO_396003.out) (by decide)) hk (fun _ h => h.2)) (fun _ h => h.1))
                    have n1_ := Aside0.mk (KeepBut.blk hk (g' := gb390) (o := .cells #[.int .i64 0, .slice none 0 0, .slice none 0 0, .slice none 0 0, .int .i64 0, .int .i64 0, .int .i64 0, .int .i64 0] 27 (0, 0)) (by (with_reducible repeat (first | refine blk_drewN ?_ _ | refine blk_drew ?_ | refine blk_alloc ?_ _)); exact BK390.out) NB390_392.out (by simp))
                    have n2_ := Aside0.mk (KeepBut.blk hk (g' := gb395) (o := .cells #[.int .i64 (wrap64 (t393)), .slice Ao46 y414.length co46, .slice none 0 0, u396003, .int .i64 0, .int .i64 0, .int .i64 0, .int .i64 0] 27 (0, 0)) (by (with_reducible repeat (first | refine blk_drewN ?_ _ | refine blk_drew ?_ | refine blk_alloc ?_ _)); exact BK395.out) NB395_392.out (by simp))
                    have n3_ := Aside0.mk (Kd.R_mono (Kd.R_keep (IsS103.apart (show IsS103 w _ g392 t413 from by repeat (first | (with_reducible first | exact HI392.out | apply IsS103.alloc | apply IsS103.drewN | apply IsS103.drew | apply IsS103.set_0 | refine IsS103.far ?_ NB392_390.out _ | refine IsS103.far ?_ NB392_395.out _) | exact HI392.out)) (by (with_reducible repeat (first | apply Kd.R_alloc | apply Kd.R_drewN | apply Kd.R_drew)); exact HO416.out) (by decide)) hk (fun _ h => h.2)) (fun _ h => h.1))
                    have n4_ := Aside0.mk (hb)
                    have n5_ := Aside0.mk (hi)
                    clear HO_396003
                    clear BK390
                    clear BK395
                    clear HO416
                    clear HB
                    clear HI392
                    have HO_396003 := n0_
                    have BK390 := n1_
                    have BK395 := n2_
                    have HO416 := n3_
                    have HB := n4_
                    have HI392 := n5_
                    clear n0_ n1_ n2_ n3_ n4_ n5_
                    (try clear hb)
                    (try clear hb2)
                    (try clear hk)
                    (try clear hi)
                    refine hK.out _ _ ⟨(blk_cell BK395.out 0).trans rfl, (blk_cell BK395.out 1).trans rfl, (blk_cell BK395.out 2).trans rfl, (blk_cell BK395.out 3).trans rfl, (blk_cell BK395.out 4).trans rfl, (blk_cell BK395.out 5).trans rfl, (blk_cell BK395.out 6).trans rfl, (blk_cell BK395.out 7).trans rfl⟩ (fun hHeld => ?_)
                    clear hK K
                    refine norm_ (a' := ?_) ?_ ?_
                    rotate_left
                    · show Act.put _ (some 60) _ = _
                      simp only [Act.put, List.setIfInBounds_toArray, List.set_cons_zero, List.set_cons_succ, i64_w, i32_w]
                      rfl
                    refine pure_ (i := 4) (N := some 61) (v := ?_) (a' := ?_) #[true, true, true, true, true, false, false, false, false] rfl rfl (any_of HT_.out (by kernel_rfl)) (fun _ _ _ h => h) (Or.inl ⟨by rfl, ?_⟩) ?_ ?_
                    rotate_left
                    · intro w'
                      go_simp
                      with_reducible rfl
                    rotate_left
                    · simp only [Act.put, List.setIfInBounds_toArray, List.set_cons_zero, List.set_cons_succ, i64_w, i32_w]
                      rfl
                    refine one_ (i := 5) (N := some 62) #[true, true, true, true, true, true, false, false, false] rfl rfl (one_of HT_.out (by kernel_rfl)) (by decide) (fun K hK => ?_)
                    refine value_ (w1 := ?_) (v := ?_) (by rfl) rfl ?_ ?_
                    rotate_left 2
                    · go_simp
                      constructor
                      · rfl
                      · rfl
                    refine hK.out _ _ ⟨(blk_cell (blk_alloc BK395.out _) 0).trans rfl, (blk_cell (blk_alloc BK395.out _) 1).trans rfl, (blk_cell (blk_alloc BK395.out _) 2).trans rfl, (blk_cell (blk_alloc BK395.out _) 3).trans rfl, (blk_cell (blk_alloc BK395.out _) 4).trans rfl, (blk_cell (blk_alloc BK395.out _) 5).trans rfl, (blk_cell (blk_alloc BK395.out _) 6).trans rfl, (blk_cell (blk_alloc BK395.out _) 7).trans rfl⟩ (fun hHeld => ?_)
                    clear hK K
                    refine norm_ (a' := ?_) ?_ ?_
                    rotate_left
                    · show Act.put _ (some 62) _ = _
                      simp only [Act.put, List.setIfInBounds_toArray, List.set_cons_zero, List.set_cons_succ, i64_w, i32_w]
                      rfl
                    refine one_ (i := 6) (N := some 63) #[true, true, true, true, true, true, true, false, false] rfl rfl (one_of HT_.out (by kernel_rfl)) (by decide) (fun K hK => ?_)
                    refine Kd.R_append_step (Kd.int .i64) (w0 := w) w.heap.size (by rfl) (.tmp 58) (.tmp 62) 25 3 (.int .i64 0) 8 rfl Try.underlying25 info3 rfl (by decide) (by omega) u396003 x396003_1 (wrap64 (t417)) [.int .i64 (wrap64 (t417))] (fun _ => True) (fun _ => False) rfl rfl ?aP (fun _ hk => hk.elim) ?aF ?aO ?aB ?aS ?aL ?_
                    (case aP => exact rfl)
                    (case aB => exact (by repeat (first | (with_reducible first | exact HB.out | apply below_alloc | apply pw_below_drewN | apply below_drew1 | refine below_set ?_ (IsS103.ge HI392.out) | refine below_set ?_ GE390.out | refine below_set ?_ GE395.out) | exact HB.out)))
                    (case aF => exact (fun _ _ => trivial))
                    (case aO => exact (by (with_reducible repeat (first | apply Kd.R_alloc | apply Kd.R_drewN | apply Kd.R_drew)); exact HO_396003.out))
                    (case aS => exact (below_size (by repeat (first | (with_reducible first | exact HB.out | apply below_alloc | apply pw_below_drewN | apply below_drew1 | refine below_set ?_ (IsS103.ge HI392.out) | refine below_set ?_ GE390.out | refine below_set ?_ GE395.out) | exact HB.out))))
                    (case aL => have := LMc42.out; omega)
                    intro v420 w51 ho hb hg hat
                    rw [← Ny419.out] at ho
                    have n0_ := Aside0.mk (blk_grown (g := gb390) (o := .cells #[.int .i64 0, .slice none 0 0, .slice none 0 0, .slice none 0 0, .int .i64 0, .int .i64 0, .int .i64 0, .int .i64 0] 27 (0, 0)) (by (with_reducible repeat (first | refine blk_drewN ?_ _ | refine blk_drew ?_ | refine blk_alloc ?_ _)); exact BK390.out) hg (Kd.R_ne HO_396003.out BK390.out (by decide)))
                    have n1_ := Aside0.mk (blk_grown (g := gb395) (o := .cells #[.int .i64 (wrap64 (t393)), .slice Ao46 y414.length co46, .slice none 0 0, u396003, .int .i64 0, .int .i64 0, .int .i64 0, .int .i64 0] 27 (0, 0)) (by (with_reducible repeat (first | refine blk_drewN ?_ _ | refine blk_drew ?_ | refine blk_alloc ?_ _)); exact BK395.out) hg (Kd.R_ne HO_396003.out BK395.out (by decide)))
                    have n2_ := Aside0.mk (IsS103.grown (by repeat (first | (with_reducible first | exact HI392.out | apply IsS103.alloc | apply IsS103.drewN | apply IsS103.drew | apply IsS103.set_0 | refine IsS103.far ?_ NB392_390.out _ | refine IsS103.far ?_ NB392_395.out _) | exact HI392.out)) hg (IsS103.own_ne HI392.out HO_396003.out (by decide)))
                    have n3_ := Aside0.mk (Kd.R_over' (by (with_reducible repeat (first | apply Kd.R_alloc | apply Kd.R_drewN | apply Kd.R_drew)); exact HO416.out) (Kd.R_typed (by (with_reducible repeat (first | apply Kd.R_alloc | apply Kd.R_drewN | apply Kd.R_drew)); exact HO_396003.out)) (by decide) hg)
                    have n4_ := Aside0.mk (hb)
                    have n5_ := Aside0.mk (ho)
                    clear BK390
                    clear BK395
                    clear HI392
                    clear HO416
                    clear HB
                    clear HO_396003
                    have BK390 := n0_
                    have BK395 := n1_
                    have HI392 := n2_
                    have HO416 := n3_
                    have HB := n4_
                    have HO421 := n5_
                    clear n0_ n1_ n2_ n3_ n4_ n5_
                    clear ho hb hg hat
                    obtain ⟨Ao52, co52, eo52⟩ := Kd.R_slice HO421.out
                    (first | subst eo52 | (injection eo52 with f1_ f2_ f3_; have f4_ := f1_.symm; have f5_ := f3_.symm; clear f1_ f2_ f3_; subst f4_; subst f5_))
                    refine hK.out _ _ ⟨(blk_cell BK395.out 0).trans rfl, (blk_cell BK395.out 1).trans rfl, (blk_cell BK395.out 2).trans rfl, (blk_cell BK395.out 3).trans rfl, (blk_cell BK395.out 4).trans rfl, (blk_cell BK395.out 5).trans rfl, (blk_cell BK395.out 6).trans rfl, (blk_cell BK395.out 7).trans rfl⟩ (fun hHeld => ?_)
                    clear hK K
                    refine norm_ (a' := ?_) ?_ ?_
                    rotate_left
                    · show Act.put _ (some 63) _ = _
                      simp only [Act.put, List.setIfInBounds_toArray, List.set_cons_zero, List.set_cons_succ, i64_w, i32_w]
                      rfl
                    refine pure_ (i := 7) (N := some 64) (v := ?_) (a' := ?_) #[true, true, true, true, true, true, true, true, false] rfl rfl (any_of HT_.out (by kernel_rfl)) (fun _ _ _ h => h) (Or.inl ⟨by rfl, ?_⟩) ?_ ?_
                    rotate_left
                    · intro w'
                      go_simp
                      with_reducible rfl
                    rotate_left
                    · simp only [Act.put, List.setIfInBounds_toArray, List.set_cons_zero, List.set_cons_succ, i64_w, i32_w]
                      rfl
                    refine last_ (i := 8) (N := none) #[true, true, true, true, true, true, true, true, true] rfl rfl (one_of HT_.out (by kernel_rfl)) (by decide) (fun K hK => ?_)
                    have hs53 : w51.cell? ⟨gb395, 3, none⟩ = some (u396003) := (blk_cell BK395.out 3).trans rfl
                    have hfs53 := blk_frozen BK395.out 3
                    have hns53_0 := NB390_395.out
                    have hms53_0 := NB395_390.out
                    refine skip_ (w1 := ?_) (by rfl) rfl ?_ ?_
                    rotate_left
                    · go_simp
                      rfl
                    refine hK.out _ _ ?_
                    clear hK K
                    refine done_ (done_of HT_.out (by kernel_rfl)) ?_
                    try go_wp2
                    go_roundg k1
                    case measure => have := HK1.out; omega
                    case rel => exact ⟨(IntKind.u64.wrap (x45_1 + 1)), (t418), (y414), (y419), (.slice Ao46 y414.length co46), (.slice Ao52 y419.length co52), (by first | rfl | (simp; done) | (simp [*]; done)), H', ⟨by have := HK1.out; omega⟩, ⟨by (with_reducible repeat (first | apply Kd.R_alloc | apply Kd.R_drewN | apply Kd.R_drew)); exact Kd.R_mono (Kd.R_far (p := ⟨gb395, 3, none⟩) (Kd.R_types HO416.out BK395.out (by decide)) (fun _ hk => hk.2) (.slice Ao52 y419.length co52)) (fun _ hk => trivial)⟩, ⟨by (with_reducible repeat (first | apply Kd.R_alloc | apply Kd.R_drewN | apply Kd.R_drew)); exact Kd.R_mono (Kd.R_far (p := ⟨gb395, 3, none⟩) (Kd.R_types HO421.out BK395.out (by decide)) (fun _ hk => hk.2) (.slice Ao52 y419.length co52)) (fun _ hk => trivial)⟩, ⟨by (with_reducible repeat (first | refine blk_drewN ?_ _ | refine blk_drew ?_ | refine blk_alloc ?_ _)); refine blk_far ?_ NB390_395.out _; (with_reducible repeat (first | refine blk_drewN ?_ _ | refine blk_drew ?_ | refine blk_alloc ?_ _)); exact BK390.out⟩, ⟨by (with_reducible repeat (first | refine blk_drewN ?_ _ | refine blk_drew ?_ | refine blk_alloc ?_ _)); refine blk_put (cs := #[.int .i64 (wrap64 (t393)), .slice Ao46 y414.length co46, .slice none 0 0, u396003, .int .i64 0, .int .i64 0, .int .i64 0, .int .i64 0]) ?_ 3 _ rfl; (with_reducible repeat (first | refine blk_drewN ?_ _ | refine blk_drew ?_ | refine blk_alloc ?_ _)); exact BK395.out⟩, ⟨by repeat (first | (with_reducible first | exact HI392.out | apply IsS103.alloc | apply IsS103.drewN | apply IsS103.drew | apply IsS103.set_0 | refine IsS103.far ?_ NB392_390.out _ | refine IsS103.far ?_ NB392_395.out _) | exact HI392.out)⟩, ⟨by repeat (first | (with_reducible first | exact HB.out | apply below_alloc | apply pw_below_drewN | apply below_drew1 | refine below_set ?_ (IsS103.ge HI392.out) | refine below_set ?_ GE390.out | refine below_set ?_ GE395.out) | exact HB.out)⟩⟩
                  · rw [if_neg c42] at H
                    exact absurd H (by simp)
                · rw [if_neg c40] at H
                  exact absurd H (by simp)
              · rw [if_neg c38] at H
                have c38b0 : decide (0 < x45_1) = false := decide_eq_false c38
                clear c38
                replace H := Option.bind_eq_some_iff.mp H
                obtain ⟨⟨t422, t423⟩, A540, H⟩ := H
                replace H : (if x396003_1.length < 17592186044416 then (page_Decode.l1 k1 l0 t396 t410 (IntKind.u64.wrap (x45_1 + 1)) t423 (wrap64 (t393)) x396001_1 (x396003_1 ++ [wrap64 (t422)]) 0 0 0 0) else (none)) = some (r1, r2, r3, r4, r5, r6, r7, r8, r9, r10) := H
                have A54 := Aside0.mk A540
                clear A540
                by_cases c55 : x396003_1.length < 17592186044416
                · rw [if_pos c55] at H
                  have LMc55 := Aside0.mk c55
                  clear c55
                  obtain ⟨y424, hy424⟩ : ∃ y_ : List Int, y_ = (x396003_1 ++ [wrap64 (t422)]) := ⟨_, rfl⟩
                  replace H : (page_Decode.l1 k1 l0 t396 t410 (IntKind.u64.wrap (x45_1 + 1)) t423 (wrap64 (t393)) x396001_1 y424 0 0 0 0) = some (r1, r2, r3, r4, r5, r6, r7, r8, r9, r10) := by first | (rw [hy424]; with_reducible exact H) | (have H2_ := (Option.bind_some _ _).symm.trans H; rw [hy424]; with_reducible exact H2_) | (have H2_ := (Option.bind_some _ _).symm.trans H; with_reducible exact H2_) | with_reducible exact H | (rw [hy424]; exact H) | exact H
                  have Ny424 := Aside0.mk hy424
                  clear hy424
                  have H' := Aside0.mk H
                  clear H
                  try go_wp2
                  have n0_ := Aside0.mk (Kd.R_drew HO_396001.out)
                  have n1_ := Aside0.mk (Kd.R_drew HO_396003.out)
                  have n2_ := Aside0.mk (blk_drew BK390.out)
                  have n3_ := Aside0.mk (blk_drew BK395.out)
                  have n4_ := Aside0.mk (IsS103.drew HI392.out)
                  have n5_ := Aside0.mk (below_drew1 HB.out)
                  clear HO_396001
                  clear HO_396003
                  clear BK390
                  clear BK395
                  clear HI392
                  clear HB
                  have HO_396001 := n0_
                  have HO_396003 := n1_
                  have BK390 := n2_
                  have BK395 := n3_
                  have HI392 := n4_
                  have HB := n5_
                  clear n0_ n1_ n2_ n3_ n4_ n5_
                  refine start_ (n := 9) (S := fun w' => w'.cell? ⟨gb395, 0, none⟩ = some (.int .i64 (wrap64 (t393))) ∧ w'.cell? ⟨gb395, 1, none⟩ = some (u396001) ∧ w'.cell? ⟨gb395, 2, none⟩ = some (.slice none 0 0) ∧ w'.cell? ⟨gb395, 3, none⟩ = some (u396003) ∧ w'.cell? ⟨gb395, 4, none⟩ = some (.int .i64 0) ∧ w'.cell? ⟨gb395, 5, none⟩ = some (.int .i64 0) ∧ w'.cell? ⟨gb395, 6, none⟩ = some (.int .i64 0) ∧ w'.cell? ⟨gb395, 7, none⟩ = some (.int .i64 0)) (ds := [8]) #[false, false, false, false, false, false, false, false, false] (by kernel_rfl) rfl rfl ⟨(blk_cell BK395.out 0).trans rfl, (blk_cell BK395.out 1).trans rfl, (blk_cell BK395.out 2).trans rfl, (blk_cell BK395.out 3).trans rfl, (blk_cell BK395.out 4).trans rfl, (blk_cell BK395.out 5).trans rfl, (blk_cell BK395.out 6).trans rfl, (blk_cell BK395.out 7).trans rfl⟩ (fun hHeld => ?_); refine with_tabW page_Decode.tab17 page_Decode.bits17 (fun HT_ HW_ => ?_)
                  generalize wr.drew = w56 at HO_396001 HO_396003 BK390 BK395 HI392 HB hHeld ⊢
                  refine pure_ (i := 0) (N := some 57) (v := ?_) (a' := ?_) #[true, false, false, false, false, false, false, false, false] rfl rfl (any_of HT_.out (by kernel_rfl)) (fun _ _ _ h => h) (Or.inl ⟨by rfl, ?_⟩) ?_ ?_
                  rotate_left
                  · intro w'
                    go_simp
                    with_reducible rfl
                  rotate_left
                  · simp only [Act.put, List.setIfInBounds_toArray, List.set_cons_zero, List.set_cons_succ, i64_w, i32_w]
                    rfl
                  refine pure_ (i := 2) (N := some 59) (v := ?_) (a' := ?_) #[true, false, true, false, false, false, false, false, false] rfl rfl (any_of HT_.out (by kernel_rfl)) (fun _ _ _ h => h) (Or.inl ⟨by rfl, ?_⟩) ?_ ?_
                  rotate_left
                  · intro w'
                    go_simp
                    with_reducible rfl
                  rotate_left
                  · simp only [Act.put, List.setIfInBounds_toArray, List.set_cons_zero, List.set_cons_succ, i64_w, i32_w]
                    rfl
                  refine take_ (i := 1) (N := some 58) (v := ?_) (a' := ?_) #[true, true, true, false, false, false, false, false, false] rfl rfl (take_ofW HT_.out HW_.out (by kernel_rfl)) (fun _ _ _ h => h) (Or.inl ⟨by rfl, ?_⟩) hHeld ?_ ?_
                  rotate_left
                  · rintro w' ⟨s0, s1, s2, s3, s4, s5, s6, s7⟩
                    go_simp
                    with_reducible rfl
                  rotate_left
                  · simp only [Act.put, List.setIfInBounds_toArray, List.set_cons_zero, List.set_cons_succ, i64_w, i32_w]
                    rfl
                  refine one_ (i := 3) (N := some 60) #[true, true, true, true, false, false, false, false, false] rfl rfl (one_of HT_.out (by kernel_rfl)) (by decide) (fun K hK => ?_)
                  refine goes_ Try.func49 (by kernel_rfl) rfl #[.pointer (some ⟨g392, 0, none⟩), .int .u64 65535] (by rfl) rfl rfl (by (try simp only [List.map_toArray, List.map_cons, List.map_nil]); first | done | rfl | (simp only [List.length_drop, List.length_take]; rfl)) ?_
                  with_reducible refine (num_Reader_Num.calls g392 x393000_1 65535 t422 t423 w _ ?side1 ?side2 A54.out).mono ?_
                  (case side1 => repeat (first | (with_reducible first | exact HI392.out | apply IsS103.alloc | apply IsS103.drewN | apply IsS103.drew | apply IsS103.set_0 | refine IsS103.far ?_ NB392_390.out _ | refine IsS103.far ?_ NB392_395.out _) | exact HI392.out))
                  (case side2 => repeat (first | (with_reducible first | exact HB.out | apply below_alloc | apply pw_below_drewN | apply below_drew1 | refine below_set ?_ (IsS103.ge HI392.out) | refine below_set ?_ GE390.out | refine below_set ?_ GE395.out) | exact HB.out))
                  rintro e w57 ⟨rfl, hi, hb, hk⟩
                  refine ⟨_, rfl, ?_⟩
                  have n0_ := Aside0.mk (Kd.R_mono (Kd.R_keep (IsS103.apart (show IsS103 w _ g392 x393000_1 from by repeat (first | (with_reducible first | exact HI392.out | apply IsS103.alloc | apply IsS103.drewN | apply IsS103.drew | apply IsS103.set_0 | refine IsS103.far ?_ NB392_390.out _ | refine IsS103.far ?_ NB392_395.out _) | exact HI392.out)) (by (with_reducible repeat (first | apply Kd.R_alloc | apply Kd.R_drewN | apply Kd.R_drew)); exact HO_396001.out) (by decide)) hk (fun _ h => h.2)) (fun _ h => h.1))
                  have n1_ := Aside0.mk (Kd.R_mono (Kd.R_keep (IsS103.apart (show IsS103 w _ g392 x393000_1 from by repeat (first | (with_reducible first | exact HI392.out | apply IsS103.alloc | apply IsS103.drewN | apply IsS103.drew | apply IsS103.set_0 | refine IsS103.far ?_ NB392_390.out _ | refine IsS103.far ?_ NB392_395.out _) | exact HI392.out)) (by (with_reducible repeat (first | apply Kd.R_alloc | apply Kd.R_drewN | apply Kd.R_drew)); exact HO_396003.out) (by decide)) hk (fun _ h => h.2)) (fun _ h => h.1))
                  have n2_ := Aside0.mk (KeepBut.blk hk (g' := gb390) (o := .cells #[.int .i64 0, .slice none 0 0, .slice none 0 0, .slice none 0 0, .int .i64 0, .int .i64 0, .int .i64 0, .int .i64 0] 27 (0, 0)) (by (with_reducible repeat (first | refine blk_drewN ?_ _ | refine blk_drew ?_ | refine blk_alloc ?_ _)); exact BK390.out) NB390_392.out (by simp))
                  have n3_ := Aside0.mk (KeepBut.blk hk (g' := gb395) (o := .cells #[.int .i64 (wrap64 (t393)), u396001, .slice none 0 0, u396003, .int .i64 0, .int .i64 0, .int .i64 0, .int .i64 0] 27 (0, 0)) (by (with_reducible repeat (first | refine blk_drewN ?_ _ | refine blk_drew ?_ | refine blk_alloc ?_ _)); exact BK395.out) NB395_392.out (by simp))
                  have n4_ := Aside0.mk (hb)
                  have n5_ := Aside0.mk (hi)
                  clear HO_396001
                  clear HO_396003
                  clear BK390
                  clear BK395
                  clear HB
                  clear HI392
                  have HO_396001 := n0_
                  have HO_396003 := n1_
                  have BK390 := n2_
                  have BK395 := n3_
                  have HB := n4_
                  have HI392 := n5_
                  clear n0_ n1_ n2_ n3_ n4_ n5_
                  (try clear hb)
                  (try clear hb2)
                  (try clear hk)
                  (try clear hi)
                  refine hK.out _ _ ⟨(blk_cell BK395.out 0).trans rfl, (blk_cell BK395.out 1).trans rfl, (blk_cell BK395.out 2).trans rfl, (blk_cell BK395.out 3).trans rfl, (blk_cell BK395.out 4).trans rfl, (blk_cell BK395.out 5).trans rfl, (blk_cell BK395.out 6).trans rfl, (blk_cell BK395.out 7).trans rfl⟩ (fun hHeld => ?_)
                  clear hK K
                  refine norm_ (a' := ?_) ?_ ?_
                  rotate_left
                  · show Act.put _ (some 60) _ = _
                    simp only [Act.put, List.setIfInBounds_toArray, List.set_cons_zero, List.set_cons_succ, i64_w, i32_w]
                    rfl
                  refine pure_ (i := 4) (N := some 61) (v := ?_) (a' := ?_) #[true, true, true, true, true, false, false, false, false] rfl rfl (any_of HT_.out (by kernel_rfl)) (fun _ _ _ h => h) (Or.inl ⟨by rfl, ?_⟩) ?_ ?_
                  rotate_left
                  · intro w'
                    go_simp
                    with_reducible rfl
                  rotate_left
                  · simp only [Act.put, List.setIfInBounds_toArray, List.set_cons_zero, List.set_cons_succ, i64_w, i32_w]
                    rfl
                  refine one_ (i := 5) (N := some 62) #[true, true, true, true, true, true, false, false, false] rfl rfl (one_of HT_.out (by kernel_rfl)) (by decide) (fun K hK => ?_)
                  refine value_ (w1 := ?_) (v := ?_) (by rfl) rfl ?_ ?_
                  rotate_left 2
                  · go_simp
                    constructor
                    · rfl
                    · rfl
                  refine hK.out _ _ ⟨(blk_cell (blk_alloc BK395.out _) 0).trans rfl, (blk_cell (blk_alloc BK395.out _) 1).trans rfl, (blk_cell (blk_alloc BK395.out _) 2).trans rfl, (blk_cell (blk_alloc BK395.out _) 3).trans rfl, (blk_cell (blk_alloc BK395.out _) 4).trans rfl, (blk_cell (blk_alloc BK395.out _) 5).trans rfl, (blk_cell (blk_alloc BK395.out _) 6).trans rfl, (blk_cell (blk_alloc BK395.out _) 7).trans rfl⟩ (fun hHeld => ?_)
                  clear hK K
                  refine norm_ (a' := ?_) ?_ ?_
                  rotate_left
                  · show Act.put _ (some 62) _ = _
                    simp only [Act.put, List.setIfInBounds_toArray, List.set_cons_zero, List.set_cons_succ, i64_w, i32_w]
                    rfl
                  refine one_ (i := 6) (N := some 63) #[true, true, true, true, true, true, true, false, false] rfl rfl (one_of HT_.out (by kernel_rfl)) (by decide) (fun K hK => ?_)
                  refine Kd.R_append_step (Kd.int .i64) (w0 := w) w.heap.size (by rfl) (.tmp 58) (.tmp 62) 25 3 (.int .i64 0) 8 rfl Try.underlying25 info3 rfl (by decide) (by omega) u396003 x396003_1 (wrap64 (t422)) [.int .i64 (wrap64 (t422))] (fun _ => True) (fun _ => False) rfl rfl ?aP (fun _ hk => hk.elim) ?aF ?aO ?aB ?aS ?aL ?_
                  (case aP => exact rfl)
                  (case aB => exact (by repeat (first | (with_reducible first | exact HB.out | apply below_alloc | apply pw_below_drewN | apply below_drew1 | refine below_set ?_ (IsS103.ge HI392.out) | refine below_set ?_ GE390.out | refine below_set ?_ GE395.out) | exact HB.out)))
                  (case aF => exact (fun _ _ => trivial))
                  (case aO => exact (by (with_reducible repeat (first | apply Kd.R_alloc | apply Kd.R_drewN | apply Kd.R_drew)); exact HO_396003.out))
                  (case aS => exact (below_size (by repeat (first | (with_reducible first | exact HB.out | apply below_alloc | apply pw_below_drewN | apply below_drew1 | refine below_set ?_ (IsS103.ge HI392.out) | refine below_set ?_ GE390.out | refine below_set ?_ GE395.out) | exact HB.out))))
                  (case aL => have := LMc55.out; omega)
                  intro v425 w58 ho hb hg hat
                  rw [← Ny424.out] at ho
                  have n0_ := Aside0.mk (Kd.R_over' (by (with_reducible repeat (first | apply Kd.R_alloc | apply Kd.R_drewN | apply Kd.R_drew)); exact HO_396001.out) (Kd.R_typed (by (with_reducible repeat (first | apply Kd.R_alloc | apply Kd.R_drewN | apply Kd.R_drew)); exact HO_396003.out)) (by decide) hg)
                  have n1_ := Aside0.mk (blk_grown (g := gb390) (o := .cells #[.int .i64 0, .slice none 0 0, .slice none 0 0, .slice none 0 0, .int .i64 0, .int .i64 0, .int .i64 0, .int .i64 0] 27 (0, 0)) (by (with_reducible repeat (first | refine blk_drewN ?_ _ | refine blk_drew ?_ | refine blk_alloc ?_ _)); exact BK390.out) hg (Kd.R_ne HO_396003.out BK390.out (by decide)))
                  have n2_ := Aside0.mk (blk_grown (g := gb395) (o := .cells #[.int .i64 (wrap64 (t393)), u396001, .slice none 0 0, u396003, .int .i64 0, .int .i64 0, .int .i64 0, .int .i64 0] 27 (0, 0)) (by (with_reducible repeat (first | refine blk_drewN ?_ _ | refine blk_drew ?_ | refine blk_alloc ?_ _)); exact BK395.out) hg (Kd.R_ne HO_396003.out BK395.out (by decide)))
                  have n3_ := Aside0.mk (IsS103.grown (by repeat (first | (with_reducible first | exact HI392.out | apply IsS103.alloc | apply IsS103.drewN | apply IsS103.drew | apply IsS103.set_0 | refine IsS103.far ?_ NB392_390.out _ | refine IsS103.far ?_ NB392_395.out _) | exact HI392.out)) hg (IsS103.own_ne HI392.out HO_396003.out (by decide)))
                  have n4_ := Aside0.mk (hb)
                  have n5_ := Aside0.mk (ho)
                  clear HO_396001
                  clear BK390
                  clear BK395
                  clear HI392
                  clear HB
                  clear HO_396003
                  have HO_396001 := n0_
                  have BK390 := n1_
                  have BK395 := n2_
                  have HI392 := n3_
                  have HB := n4_
                  have HO426 := n5_
                  clear n0_ n1_ n2_ n3_ n4_ n5_
                  clear ho hb hg hat
                  obtain ⟨Ao59, co59, eo59⟩ := Kd.R_slice HO426.out
                  (first | subst eo59 | (injection eo59 with f1_ f2_ f3_; have f4_ := f1_.symm; have f5_ := f3_.symm; clear f1_ f2_ f3_; subst f4_; subst f5_))
                  refine hK.out _ _ ⟨(blk_cell BK395.out 0).trans rfl, (blk_cell BK395.out 1).trans rfl, (blk_cell BK395.out 2).trans rfl, (blk_cell BK395.out 3).trans rfl, (blk_cell BK395.out 4).trans rfl, (blk_cell BK395.out 5).trans rfl, (blk_cell BK395.out 6).trans rfl, (blk_cell BK395.out 7).trans rfl⟩ (fun hHeld => ?_)
                  clear hK K
                  refine norm_ (a' := ?_) ?_ ?_
                  rotate_left
                  · show Act.put _ (some 63) _ = _
                    simp only [Act.put, List.setIfInBounds_toArray, List.set_cons_zero, List.set_cons_succ, i64_w, i32_w]
                    rfl
                  refine pure_ (i := 7) (N := some 64) (v := ?_) (a' := ?_) #[true, true, true, true, true, true, true, true, false] rfl rfl (any_of HT_.out (by kernel_rfl)) (fun _ _ _ h => h) (Or.inl ⟨by rfl, ?_⟩) ?_ ?_
                  rotate_left
                  · intro w'
                    go_simp
                    with_reducible rfl
                  rotate_left
                  · simp only [Act.put, List.setIfInBounds_toArray, List.set_cons_zero, List.set_cons_succ, i64_w, i32_w]
                    rfl
                  refine last_ (i := 8) (N := none) #[true, true, true, true, true, true, true, true, true] rfl rfl (one_of HT_.out (by kernel_rfl)) (by decide) (fun K hK => ?_)
                  have hs60 : w58.cell? ⟨gb395, 3, none⟩ = some (u396003) := (blk_cell BK395.out 3).trans rfl
                  have hfs60 := blk_frozen BK395.out 3
                  have hns60_0 := NB390_395.out
                  have hms60_0 := NB395_390.out
                  refine skip_ (w1 := ?_) (by rfl) rfl ?_ ?_
                  rotate_left
                  · go_simp
                    rfl
                  refine hK.out _ _ ?_
                  clear hK K
                  refine done_ (done_of HT_.out (by kernel_rfl)) ?_
                  try go_wp2
                  go_roundg k1
                  case measure => have := HK1.out; omega
                  case rel => exact ⟨(IntKind.u64.wrap (x45_1 + 1)), (t423), (x396001_1), (y424), (u396001), (.slice Ao59 y424.length co59), (by first | rfl | (simp; done) | (simp [*]; done)), H', ⟨by have := HK1.out; omega⟩, ⟨by (with_reducible repeat (first | apply Kd.R_alloc | apply Kd.R_drewN | apply Kd.R_drew)); exact Kd.R_mono (Kd.R_far (p := ⟨gb395, 3, none⟩) (Kd.R_types HO_396001.out BK395.out (by decide)) (fun _ hk => hk.2) (.slice Ao59 y424.length co59)) (fun _ hk => trivial)⟩, ⟨by (with_reducible repeat (first | apply Kd.R_alloc | apply Kd.R_drewN | apply Kd.R_drew)); exact Kd.R_mono (Kd.R_far (p := ⟨gb395, 3, none⟩) (Kd.R_types HO426.out BK395.out (by decide)) (fun _ hk => hk.2) (.slice Ao59 y424.length co59)) (fun _ hk => trivial)⟩, ⟨by (with_reducible repeat (first | refine blk_drewN ?_ _ | refine blk_drew ?_ | refine blk_alloc ?_ _)); refine blk_far ?_ NB390_395.out _; (with_reducible repeat (first | refine blk_drewN ?_ _ | refine blk_drew ?_ | refine blk_alloc ?_ _)); exact BK390.out⟩, ⟨by (with_reducible repeat (first | refine blk_drewN ?_ _ | refine blk_drew ?_ | refine blk_alloc ?_ _)); refine blk_put (cs := #[.int .i64 (wrap64 (t393)), u396001, .slice none 0 0, u396003, .int .i64 0, .int .i64 0, .int .i64 0, .int .i64 0]) ?_ 3 _ rfl; (with_reducible repeat (first | refine blk_drewN ?_ _ | refine blk_drew ?_ | refine blk_alloc ?_ _)); exact BK395.out⟩, ⟨by repeat (first | (with_reducible first | exact HI392.out | apply IsS103.alloc | apply IsS103.drewN | apply IsS103.drew | apply IsS103.set_0 | refine IsS103.far ?_ NB392_390.out _ | refine IsS103.far ?_ NB392_395.out _) | exact HI392.out)⟩, ⟨by repeat (first | (with_reducible first | exact HB.out | apply below_alloc | apply pw_below_drewN | apply below_drew1 | refine below_set ?_ (IsS103.ge HI392.out) | refine below_set ?_ GE390.out | refine below_set ?_ GE395.out) | exact HB.out)⟩⟩
                · rw [if_neg c55] at H
                  exact absurd H (by simp)
            · rw [if_neg c37] at H
              have c37b0 : decide (x45_1 < t410) = false := decide_eq_false c37
              clear c37
              have H' := Aside0.mk H
              clear H
              go_wp2
              go_meet
              case rel => exact ⟨_, (x393000_1), (x396001_1), (([] : List ByteArray)), (x396003_1), (0), (0), (0), (0), (u396001), (.slice none 0 0), (u396003), H', ⟨by have := HK1.out; first | omega | exact Nat.le_refl _⟩, ⟨by (with_reducible repeat (first | apply Kd.R_alloc | apply Kd.R_drewN | apply Kd.R_drew)); exact Kd.R_mono HO_396001.out (fun _ hk => (by simp [Value.ownBlock]))⟩, ⟨by first | exact Kd.R_nil _ _ _ _ _ | exact Kd.N_nil _ _ _ _ _ | exact Kd.V_nil _ _ _ _ _ | exact Kd.Q_nil _ _ _ _ _ | exact Kd.S_nil _ _ _ _ _⟩, ⟨by (with_reducible repeat (first | apply Kd.R_alloc | apply Kd.R_drewN | apply Kd.R_drew)); exact HO_396003.out⟩, ⟨by (with_reducible repeat (first | refine blk_drewN ?_ _ | refine blk_drew ?_ | refine blk_alloc ?_ _)); exact BK390.out⟩, ⟨by (with_reducible repeat (first | refine blk_drewN ?_ _ | refine blk_drew ?_ | refine blk_alloc ?_ _)); exact BK395.out⟩, ⟨by repeat (first | (with_reducible first | exact HI392.out | apply IsS103.alloc | apply IsS103.drewN | apply IsS103.drew | apply IsS103.set_0 | refine IsS103.far ?_ NB392_390.out _ | refine IsS103.far ?_ NB392_395.out _) | exact HI392.out)⟩, ⟨by repeat (first | (with_reducible first | exact HB.out | apply below_alloc | apply pw_below_drewN | apply below_drew1 | refine below_set ?_ (IsS103.ge HI392.out) | refine below_set ?_ GE390.out | refine below_set ?_ GE395.out) | exact HB.out)⟩⟩
      · rw [if_neg c34] at H
        have c34b0 : ((wrap64 (t393)) == 2) = false := beq_eq_false_iff_ne.mpr c34
        have c34b1 : ((wrap64 (t393)) != 2) = true := bne_iff_ne.mpr c34
        by_cases c61 : (wrap64 (t393)) = 3
        · rw [if_pos c61] at H
          have c61b0 : ((wrap64 (t393)) == 3) = true := beq_iff_eq.mpr c61
          have c61b1 : ((wrap64 (t393)) != 3) = false := bne_eq_false_iff_eq.mpr c61
          clear c61
          replace H := Option.bind_eq_some_iff.mp H
          obtain ⟨⟨t427, t428⟩, A620, H⟩ := H
          replace H : ((num_Reader_Num.f t428 65535).bind fun bt429 => ((num_Reader_Num.f bt429.2 65536).bind fun bt431 => ((num_Reader_Num.f bt431.2 65536).bind fun bt433 => (page_Decode.j2 k l0 t396 bt433.2 (wrap64 (t393)) ([] : List ByteArray) ([] : List ByteArray) ([] : List Int) (wrap64 (t427)) (wrap64 (bt429.1)) (wrap64 (bt431.1)) (wrap64 (bt433.1)))))) = some (r1, r2, r3, r4, r5, r6, r7, r8, r9, r10) := H
          have A62 := Aside0.mk A620
          clear A620
          replace H := Option.bind_eq_some_iff.mp H
          obtain ⟨⟨t429, t430⟩, A630, H⟩ := H
          replace H : ((num_Reader_Num.f t430 65536).bind fun bt431 => ((num_Reader_Num.f bt431.2 65536).bind fun bt433 => (page_Decode.j2 k l0 t396 bt433.2 (wrap64 (t393)) ([] : List ByteArray) ([] : List ByteArray) ([] : List Int) (wrap64 (t427)) (wrap64 (t429)) (wrap64 (bt431.1)) (wrap64 (bt433.1))))) = some (r1, r2, r3, r4, r5, r6, r7, r8, r9, r10) := H
          have A63 := Aside0.mk A630
          clear A630
          replace H := Option.bind_eq_some_iff.mp H
          obtain ⟨⟨t431, t432⟩, A640, H⟩ := H
          replace H : ((num_Reader_Num.f t432 65536).bind fun bt433 => (page_Decode.j2 k l0 t396 bt433.2 (wrap64 (t393)) ([] : List ByteArray) ([] : List ByteArray) ([] : List Int) (wrap64 (t427)) (wrap64 (t429)) (wrap64 (t431)) (wrap64 (bt433.1)))) = some (r1, r2, r3, r4, r5, r6, r7, r8, r9, r10) := H
          have A64 := Aside0.mk A640
          clear A640
          replace H := Option.bind_eq_some_iff.mp H
          obtain ⟨⟨t433, t434⟩, A650, H⟩ := H
          replace H : (page_Decode.j2 k l0 t396 t434 (wrap64 (t393)) ([] : List ByteArray) ([] : List ByteArray) ([] : List Int) (wrap64 (t427)) (wrap64 (t429)) (wrap64 (t431)) (wrap64 (t433))) = some (r1, r2, r3, r4, r5, r6, r7, r8, r9, r10) := H
          have A65 := Aside0.mk A650
          clear A650
          have H' := Aside0.mk H
          clear H
          go_wp2_with (first | ((with_reducible refine gate_callee (f := 49) rfl ?_); refine goesL_ (some 69) rfl rfl Try.func49 (by kernel_rfl) rfl #[.pointer (some ⟨g392, 0, none⟩), .int .u64 65535] rfl (by (try simp only [List.map_toArray, List.map_cons, List.map_nil]); first | done | rfl | (simp only [List.length_drop, List.length_take]; rfl)) ?_; (with_reducible refine (num_Reader_Num.calls g392 t397 65535 t427 t428 w _ ?side1 ?side2 A62.out).mono ?_); (case side1 => repeat (first | (with_reducible first | exact HI392.out | apply IsS103.alloc | apply IsS103.drewN | apply IsS103.drew | apply IsS103.set_0 | refine IsS103.far ?_ NB392_390.out _ | refine IsS103.far ?_ NB392_395.out _) | exact HI392.out)); (case side2 => repeat (first | (with_reducible first | exact HB.out | apply below_alloc | apply pw_below_drewN | apply below_drew1 | refine below_set ?_ (IsS103.ge HI392.out) | refine below_set ?_ GE390.out | refine below_set ?_ GE395.out) | exact HB.out)); rintro e w66 ⟨rfl, hi, hb, hk⟩; refine ⟨_, rfl, ?_⟩; have n0_ := Aside0.mk (KeepBut.blk hk (g' := gb390) (o := .cells #[.int .i64 0, .slice none 0 0, .slice none 0 0, .slice none 0 0, .int .i64 0, .int .i64 0, .int .i64 0, .int .i64 0] 27 (0, 0)) (by (with_reducible repeat (first | refine blk_drewN ?_ _ | refine blk_drew ?_ | refine blk_alloc ?_ _)); exact BK390.out) NB390_392.out (by simp)); have n1_ := Aside0.mk (KeepBut.blk hk (g' := gb395) (o := .cells #[.int .i64 (wrap64 (t393)), .slice none 0 0, .slice none 0 0, .slice none 0 0, .int .i64 0, .int .i64 0, .int .i64 0, .int .i64 0] 27 (0, 0)) (by (with_reducible repeat (first | refine blk_drewN ?_ _ | refine blk_drew ?_ | refine blk_alloc ?_ _)); exact BK395.out) NB395_392.out (by simp)); have n2_ := Aside0.mk (hb); have n3_ := Aside0.mk (hi); clear BK390; clear BK395; clear HB; clear HI392; have BK390 := n0_; have BK395 := n1_; have HB := n2_; have HI392 := n3_; clear n0_ n1_ n2_ n3_; (try clear hb); (try clear hb2); (try clear hk); (try clear hi)) | ((with_reducible refine gate_callee (f := 49) rfl ?_); refine goesL_ (some 72) rfl rfl Try.func49 (by kernel_rfl) rfl #[.pointer (some ⟨g392, 0, none⟩), .int .u64 65535] rfl (by (try simp only [List.map_toArray, List.map_cons, List.map_nil]); first | done | rfl | (simp only [List.length_drop, List.length_take]; rfl)) ?_; (with_reducible refine (num_Reader_Num.calls g392 t428 65535 t429 t430 w _ ?side1 ?side2 A63.out).mono ?_); (case side1 => repeat (first | (with_reducible first | exact HI392.out | apply IsS103.alloc | apply IsS103.drewN | apply IsS103.drew | apply IsS103.set_0 | refine IsS103.far ?_ NB392_390.out _ | refine IsS103.far ?_ NB392_395.out _) | exact HI392.out)); (case side2 => repeat (first | (with_reducible first | exact HB.out | apply below_alloc | apply pw_below_drewN | apply below_drew1 | refine below_set ?_ (IsS103.ge HI392.out) | refine below_set ?_ GE390.out | refine below_set ?_ GE395.out) | exact HB.out)); rintro e w67 ⟨rfl, hi, hb, hk⟩; refine ⟨_, rfl, ?_⟩; have n0_ := Aside0.mk (KeepBut.blk hk (g' := gb390) (o := .cells #[.int .i64 0, .slice none 0 0, .slice none 0 0, .slice none 0 0, .int .i64 0, .int .i64 0, .int .i64 0, .int .i64 0] 27 (0, 0)) (by (with_reducible repeat (first | refine blk_drewN ?_ _ | refine blk_drew ?_ | refine blk_alloc ?_ _)); exact BK390.out) NB390_392.out (by simp)); have n1_ := Aside0.mk (KeepBut.blk hk (g' := gb395) (o := .cells #[.int .i64 (wrap64 (t393)), .slice none 0 0, .slice none 0 0, .slice none 0 0, .int .i64 0, .int .i64 0, .int .i64 0, .int .i64 0] 27 (0, 0)) (by (with_reducible repeat (first | refine blk_drewN ?_ _ | refine blk_drew ?_ | refine blk_alloc ?_ _)); exact BK395.out) NB395_392.out (by simp)); have n2_ := Aside0.mk (hb); have n3_ := Aside0.mk (hi); clear BK390; clear BK395; clear HB; clear HI392; have BK390 := n0_; have BK395 := n1_; have HB := n2_; have HI392 := n3_; clear n0_ n1_ n2_ n3_; (try clear hb); (try clear hb2); (try clear hk); (try clear hi); have hnb68 := NB395_390.out; have hnc68 := NB390_395.out; have hnb69 := NB395_392.out; have hnc69 := NB392_395.out; have hcz70_0 : w67.cell? ⟨gb395, 0, none⟩ = some (.int .i64 (wrap64 (t393))) := (blk_cell BK395.out 0).trans rfl; have hcz70_1 : w67.cell? ⟨gb395, 1, none⟩ = some (.slice none 0 0) := (blk_cell BK395.out 1).trans rfl; have hcz70_2 : w67.cell? ⟨gb395, 2, none⟩ = some (.slice none 0 0) := (blk_cell BK395.out 2).trans rfl; have hcz70_3 : w67.cell? ⟨gb395, 3, none⟩ = some (.slice none 0 0) := (blk_cell BK395.out 3).trans rfl; have hcz70_4 : w67.cell? ⟨gb395, 4, none⟩ = some (.int .i64 0) := (blk_cell BK395.out 4).trans rfl; have hcz70_5 : w67.cell? ⟨gb395, 5, none⟩ = some (.int .i64 0) := (blk_cell BK395.out 5).trans rfl; have hcz70_6 : w67.cell? ⟨gb395, 6, none⟩ = some (.int .i64 0) := (blk_cell BK395.out 6).trans rfl; have hcz70_7 : w67.cell? ⟨gb395, 7, none⟩ = some (.int .i64 0) := (blk_cell BK395.out 7).trans rfl; have hfz70_0 := blk_frozen BK395.out 0; have hfz70_1 := blk_frozen BK395.out 1; have hfz70_2 := blk_frozen BK395.out 2; have hfz70_3 := blk_frozen BK395.out 3; have hfz70_4 := blk_frozen BK395.out 4; have hfz70_5 := blk_frozen BK395.out 5; have hfz70_6 := blk_frozen BK395.out 6; have hfz70_7 := blk_frozen BK395.out 7) | ((with_reducible refine gate_callee (f := 49) rfl ?_); refine goesL_ (some 77) rfl rfl Try.func49 (by kernel_rfl) rfl #[.pointer (some ⟨g392, 0, none⟩), .int .u64 65536] rfl (by (try simp only [List.map_toArray, List.map_cons, List.map_nil]); first | done | rfl | (simp only [List.length_drop, List.length_take]; rfl)) ?_; (with_reducible refine (num_Reader_Num.calls g392 t430 65536 t431 t432 w _ ?side1 ?side2 A64.out).mono ?_); (case side1 => repeat (first | (with_reducible first | exact HI392.out | apply IsS103.alloc | apply IsS103.drewN | apply IsS103.drew | apply IsS103.set_0 | refine IsS103.far ?_ NB392_390.out _ | refine IsS103.far ?_ NB392_395.out _) | exact HI392.out)); (case side2 => repeat (first | (with_reducible first | exact HB.out | apply below_alloc | apply pw_below_drewN | apply below_drew1 | refine below_set ?_ (IsS103.ge HI392.out) | refine below_set ?_ GE390.out | refine below_set ?_ GE395.out) | exact HB.out)); rintro e w71 ⟨rfl, hi, hb, hk⟩; refine ⟨_, rfl, ?_⟩; have n0_ := Aside0.mk (KeepBut.blk hk (g' := gb390) (o := .cells #[.int .i64 0, .slice none 0 0, .slice none 0 0, .slice none 0 0, .int .i64 0, .int .i64 0, .int .i64 0, .int .i64 0] 27 (0, 0)) (by (with_reducible repeat (first | refine blk_drewN ?_ _ | refine blk_drew ?_ | refine blk_alloc ?_ _)); refine blk_far ?_ NB390_395.out _; (with_reducible repeat (first | refine blk_drewN ?_ _ | refine blk_drew ?_ | refine blk_alloc ?_ _)); refine blk_far ?_ NB390_395.out _; (with_reducible repeat (first | refine blk_drewN ?_ _ | refine blk_drew ?_ | refine blk_alloc ?_ _)); exact BK390.out) NB390_392.out (by simp)); have n1_ := Aside0.mk (KeepBut.blk hk (g' := gb395) (o := .cells #[.int .i64 (wrap64 (t393)), .slice none 0 0, .slice none 0 0, .slice none 0 0, .int .i64 (wrap64 (t427)), .int .i64 (wrap64 (t429)), .int .i64 0, .int .i64 0] 27 (0, 0)) (by (with_reducible repeat (first | refine blk_drewN ?_ _ | refine blk_drew ?_ | refine blk_alloc ?_ _)); refine blk_put (cs := #[.int .i64 (wrap64 (t393)), .slice none 0 0, .slice none 0 0, .slice none 0 0, .int .i64 (wrap64 (t427)), .int .i64 0, .int .i64 0, .int .i64 0]) ?_ 5 _ rfl; (with_reducible repeat (first | refine blk_drewN ?_ _ | refine blk_drew ?_ | refine blk_alloc ?_ _)); refine blk_put (cs := #[.int .i64 (wrap64 (t393)), .slice none 0 0, .slice none 0 0, .slice none 0 0, .int .i64 0, .int .i64 0, .int .i64 0, .int .i64 0]) ?_ 4 _ rfl; (with_reducible repeat (first | refine blk_drewN ?_ _ | refine blk_drew ?_ | refine blk_alloc ?_ _)); exact BK395.out) NB395_392.out (by simp)); have n2_ := Aside0.mk (hb); have n3_ := Aside0.mk (hi); clear BK390; clear BK395; clear HB; clear HI392; have BK390 := n0_; have BK395 := n1_; have HB := n2_; have HI392 := n3_; clear n0_ n1_ n2_ n3_; (try clear hb); (try clear hb2); (try clear hk); (try clear hi)) | ((with_reducible refine gate_callee (f := 49) rfl ?_); refine goesL_ (some 80) rfl rfl Try.func49 (by kernel_rfl) rfl #[.pointer (some ⟨g392, 0, none⟩), .int .u64 65536] rfl (by (try simp only [List.map_toArray, List.map_cons, List.map_nil]); first | done | rfl | (simp only [List.length_drop, List.length_take]; rfl)) ?_; (with_reducible refine (num_Reader_Num.calls g392 t432 65536 t433 t434 w _ ?side1 ?side2 A65.out).mono ?_); (case side1 => repeat (first | (with_reducible first | exact HI392.out | apply IsS103.alloc | apply IsS103.drewN | apply IsS103.drew | apply IsS103.set_0 | refine IsS103.far ?_ NB392_390.out _ | refine IsS103.far ?_ NB392_395.out _) | exact HI392.out)); (case side2 => repeat (first | (with_reducible first | exact HB.out | apply below_alloc | apply pw_below_drewN | apply below_drew1 | refine below_set ?_ (IsS103.ge HI392.out) | refine below_set ?_ GE390.out | refine below_set ?_ GE395.out) | exact HB.out)); rintro e w72 ⟨rfl, hi, hb, hk⟩; refine ⟨_, rfl, ?_⟩; have n0_ := Aside0.mk (KeepBut.blk hk (g' := gb390) (o := .cells #[.int .i64 0, .slice none 0 0, .slice none 0 0, .slice none 0 0, .int .i64 0, .int .i64 0, .int .i64 0, .int .i64 0] 27 (0, 0)) (by (with_reducible repeat (first | refine blk_drewN ?_ _ | refine blk_drew ?_ | refine blk_alloc ?_ _)); exact BK390.out) NB390_392.out (by simp)); have n1_ := Aside0.mk (KeepBut.blk hk (g' := gb395) (o := .cells #[.int .i64 (wrap64 (t393)), .slice none 0 0, .slice none 0 0, .slice none 0 0, .int .i64 (wrap64 (t427)), .int .i64 (wrap64 (t429)), .int .i64 0, .int .i64 0] 27 (0, 0)) (by (with_reducible repeat (first | refine blk_drewN ?_ _ | refine blk_drew ?_ | refine blk_alloc ?_ _)); exact BK395.out) NB395_392.out (by simp)); have n2_ := Aside0.mk (hb); have n3_ := Aside0.mk (hi); clear BK390; clear BK395; clear HB; clear HI392; have BK390 := n0_; have BK395 := n1_; have HB := n2_; have HI392 := n3_; clear n0_ n1_ n2_ n3_; (try clear hb); (try clear hb2); (try clear hk); (try clear hi); have hcz73_0 : w72.cell? ⟨gb395, 0, none⟩ = some (.int .i64 (wrap64 (t393))) := (blk_cell BK395.out 0).trans rfl; have hcz73_1 : w72.cell? ⟨gb395, 1, none⟩ = some (.slice none 0 0) := (blk_cell BK395.out 1).trans rfl; have hcz73_2 : w72.cell? ⟨gb395, 2, none⟩ = some (.slice none 0 0) := (blk_cell BK395.out 2).trans rfl; have hcz73_3 : w72.cell? ⟨gb395, 3, none⟩ = some (.slice none 0 0) := (blk_cell BK395.out 3).trans rfl; have hcz73_4 : w72.cell? ⟨gb395, 4, none⟩ = some (.int .i64 (wrap64 (t427))) := (blk_cell BK395.out 4).trans rfl; have hcz73_5 : w72.cell? ⟨gb395, 5, none⟩ = some (.int .i64 (wrap64 (t429))) := (blk_cell BK395.out 5).trans rfl; have hcz73_6 : w72.cell? ⟨gb395, 6, none⟩ = some (.int .i64 0) := (blk_cell BK395.out 6).trans rfl; have hcz73_7 : w72.cell? ⟨gb395, 7, none⟩ = some (.int .i64 0) := (blk_cell BK395.out 7).trans rfl; have hfz73_0 := blk_frozen BK395.out 0; have hfz73_1 := blk_frozen BK395.out 1; have hfz73_2 := blk_frozen BK395.out 2; have hfz73_3 := blk_frozen BK395.out 3; have hfz73_4 := blk_frozen BK395.out 4; have hfz73_5 := blk_frozen BK395.out 5; have hfz73_6 := blk_frozen BK395.out 6; have hfz73_7 := blk_frozen BK395.out 7))
          go_meet
          case rel => exact ⟨_, (t434), (([] : List ByteArray)), (([] : List ByteArray)), (([] : List Int)), (wrap64 (t427)), (wrap64 (t429)), (wrap64 (t431)), (wrap64 (t433)), (.slice none 0 0), (.slice none 0 0), (.slice none 0 0), H', ⟨by first | omega | exact Nat.le_refl _⟩, ⟨by first | exact Kd.R_nil _ _ _ _ _ | exact Kd.N_nil _ _ _ _ _ | exact Kd.V_nil _ _ _ _ _ | exact Kd.Q_nil _ _ _ _ _ | exact Kd.S_nil _ _ _ _ _⟩, ⟨by first | exact Kd.R_nil _ _ _ _ _ | exact Kd.N_nil _ _ _ _ _ | exact Kd.V_nil _ _ _ _ _ | exact Kd.Q_nil _ _ _ _ _ | exact Kd.S_nil _ _ _ _ _⟩, ⟨by first | exact Kd.R_nil _ _ _ _ _ | exact Kd.N_nil _ _ _ _ _ | exact Kd.V_nil _ _ _ _ _ | exact Kd.Q_nil _ _ _ _ _ | exact Kd.S_nil _ _ _ _ _⟩, ⟨by (with_reducible repeat (first | refine blk_drewN ?_ _ | refine blk_drew ?_ | refine blk_alloc ?_ _)); refine blk_far ?_ NB390_395.out _; (with_reducible repeat (first | refine blk_drewN ?_ _ | refine blk_drew ?_ | refine blk_alloc ?_ _)); refine blk_far ?_ NB390_395.out _; (with_reducible repeat (first | refine blk_drewN ?_ _ | refine blk_drew ?_ | refine blk_alloc ?_ _)); exact BK390.out⟩, ⟨by (with_reducible repeat (first | refine blk_drewN ?_ _ | refine blk_drew ?_ | refine blk_alloc ?_ _)); refine blk_put (cs := #[.int .i64 (wrap64 (t393)), .slice none 0 0, .slice none 0 0, .slice none 0 0, .int .i64 (wrap64 (t427)), .int .i64 (wrap64 (t429)), .int .i64 (wrap64 (t431)), .int .i64 0]) ?_ 7 _ rfl; (with_reducible repeat (first | refine blk_drewN ?_ _ | refine blk_drew ?_ | refine blk_alloc ?_ _)); refine blk_put (cs := #[.int .i64 (wrap64 (t393)), .slice none 0 0, .slice none 0 0, .slice none 0 0, .int .i64 (wrap64 (t427)), .int .i64 (wrap64 (t429)), .int .i64 0, .int .i64 0]) ?_ 6 _ rfl; (with_reducible repeat (first | refine blk_drewN ?_ _ | refine blk_drew ?_ | refine blk_alloc ?_ _)); exact BK395.out⟩, ⟨by repeat (first | (with_reducible first | exact HI392.out | apply IsS103.alloc | apply IsS103.drewN | apply IsS103.drew | apply IsS103.set_0 | refine IsS103.far ?_ NB392_390.out _ | refine IsS103.far ?_ NB392_395.out _) | exact HI392.out)⟩, ⟨by repeat (first | (with_reducible first | exact HB.out | apply below_alloc | apply pw_below_drewN | apply below_drew1 | refine below_set ?_ (IsS103.ge HI392.out) | refine below_set ?_ GE390.out | refine below_set ?_ GE395.out) | exact HB.out)⟩⟩
        · rw [if_neg c61] at H
          have c61b0 : ((wrap64 (t393)) == 3) = false := beq_eq_false_iff_ne.mpr c61
          have c61b1 : ((wrap64 (t393)) != 3) = true := bne_iff_ne.mpr c61
          by_cases c74 : (wrap64 (t393)) = 4
          · rw [if_pos c74] at H
            have c74b0 : ((wrap64 (t393)) == 4) = true := beq_iff_eq.mpr c74
            have c74b1 : ((wrap64 (t393)) != 4) = false := bne_eq_false_iff_eq.mpr c74
            clear c74
            replace H := Option.bind_eq_some_iff.mp H
            obtain ⟨⟨t435, t436⟩, A750, H⟩ := H
            replace H : (page_Decode.j2 k l0 t396 t436 (wrap64 (t393)) ([] : List ByteArray) ([] : List ByteArray) ([] : List Int) 0 (wrap64 (t435)) 0 0) = some (r1, r2, r3, r4, r5, r6, r7, r8, r9, r10) := H
            have A75 := Aside0.mk A750
            clear A750
            have H' := Aside0.mk H
            clear H
            go_wp2_with (first | ((with_reducible refine gate_callee (f := 49) rfl ?_); refine goesL_ (some 87) rfl rfl Try.func49 (by kernel_rfl) rfl #[.pointer (some ⟨g392, 0, none⟩), .int .u64 65535] rfl (by (try simp only [List.map_toArray, List.map_cons, List.map_nil]); first | done | rfl | (simp only [List.length_drop, List.length_take]; rfl)) ?_; (with_reducible refine (num_Reader_Num.calls g392 t397 65535 t435 t436 w _ ?side1 ?side2 A75.out).mono ?_); (case side1 => repeat (first | (with_reducible first | exact HI392.out | apply IsS103.alloc | apply IsS103.drewN | apply IsS103.drew | apply IsS103.set_0 | refine IsS103.far ?_ NB392_390.out _ | refine IsS103.far ?_ NB392_395.out _) | exact HI392.out)); (case side2 => repeat (first | (with_reducible first | exact HB.out | apply below_alloc | apply pw_below_drewN | apply below_drew1 | refine below_set ?_ (IsS103.ge HI392.out) | refine below_set ?_ GE390.out | refine below_set ?_ GE395.out) | exact HB.out)); rintro e w76 ⟨rfl, hi, hb, hk⟩; refine ⟨_, rfl, ?_⟩; have n0_ := Aside0.mk (KeepBut.blk hk (g' := gb390) (o := .cells #[.int .i64 0, .slice none 0 0, .slice none 0 0, .slice none 0 0, .int .i64 0, .int .i64 0, .int .i64 0, .int .i64 0] 27 (0, 0)) (by (with_reducible repeat (first | refine blk_drewN ?_ _ | refine blk_drew ?_ | refine blk_alloc ?_ _)); exact BK390.out) NB390_392.out (by simp)); have n1_ := Aside0.mk (KeepBut.blk hk (g' := gb395) (o := .cells #[.int .i64 (wrap64 (t393)), .slice none 0 0, .slice none 0 0, .slice none 0 0, .int .i64 0, .int .i64 0, .int .i64 0, .int .i64 0] 27 (0, 0)) (by (with_reducible repeat (first | refine blk_drewN ?_ _ | refine blk_drew ?_ | refine blk_alloc ?_ _)); exact BK395.out) NB395_392.out (by simp)); have n2_ := Aside0.mk (hb); have n3_ := Aside0.mk (hi); clear BK390; clear BK395; clear HB; clear HI392; have BK390 := n0_; have BK395 := n1_; have HB := n2_; have HI392 := n3_; clear n0_ n1_ n2_ n3_; (try clear hb); (try clear hb2); (try clear hk); (try clear hi); have hnb77 := NB395_390.out; have hnc77 := NB390_395.out; have hnb78 := NB395_392.out; have hnc78 := NB392_395.out; have hcz79_0 : w76.cell? ⟨gb395, 0, none⟩ = some (.int .i64 (wrap64 (t393))) := (blk_cell BK395.out 0).trans rfl; have hcz79_1 : w76.cell? ⟨gb395, 1, none⟩ = some (.slice none 0 0) := (blk_cell BK395.out 1).trans rfl; have hcz79_2 : w76.cell? ⟨gb395, 2, none⟩ = some (.slice none 0 0) := (blk_cell BK395.out 2).trans rfl; have hcz79_3 : w76.cell? ⟨gb395, 3, none⟩ = some (.slice none 0 0) := (blk_cell BK395.out 3).trans rfl; have hcz79_4 : w76.cell? ⟨gb395, 4, none⟩ = some (.int .i64 0) := (blk_cell BK395.out 4).trans rfl; have hcz79_5 : w76.cell? ⟨gb395, 5, none⟩ = some (.int .i64 0) := (blk_cell BK395.out 5).trans rfl; have hcz79_6 : w76.cell? ⟨gb395, 6, none⟩ = some (.int .i64 0) := (blk_cell BK395.out 6).trans rfl; have hcz79_7 : w76.cell? ⟨gb395, 7, none⟩ = some (.int .i64 0) := (blk_cell BK395.out 7).trans rfl; have hfz79_0 := blk_frozen BK395.out 0; have hfz79_1 := blk_frozen BK395.out 1; have hfz79_2 := blk_frozen BK395.out 2; have hfz79_3 := blk_frozen BK395.out 3; have hfz79_4 := blk_frozen BK395.out 4; have hfz79_5 := blk_frozen BK395.out 5; have hfz79_6 := blk_frozen BK395.out 6; have hfz79_7 := blk_frozen BK395.out 7))
            go_meet
            case rel => exact ⟨_, (t436), (([] : List ByteArray)), (([] : List ByteArray)), (([] : List Int)), (0), (wrap64 (t435)), (0), (0), (.slice none 0 0), (.slice none 0 0), (.slice none 0 0), H', ⟨by first | omega | exact Nat.le_refl _⟩, ⟨by first | exact Kd.R_nil _ _ _ _ _ | exact Kd.N_nil _ _ _ _ _ | exact Kd.V_nil _ _ _ _ _ | exact Kd.Q_nil _ _ _ _ _ | exact Kd.S_nil _ _ _ _ _⟩, ⟨by first | exact Kd.R_nil _ _ _ _ _ | exact Kd.N_nil _ _ _ _ _ | exact Kd.V_nil _ _ _ _ _ | exact Kd.Q_nil _ _ _ _ _ | exact Kd.S_nil _ _ _ _ _⟩, ⟨by first | exact Kd.R_nil _ _ _ _ _ | exact Kd.N_nil _ _ _ _ _ | exact Kd.V_nil _ _ _ _ _ | exact Kd.Q_nil _ _ _ _ _ | exact Kd.S_nil _ _ _ _ _⟩, ⟨by (with_reducible repeat (first | refine blk_drewN ?_ _ | refine blk_drew ?_ | refine blk_alloc ?_ _)); refine blk_far ?_ NB390_395.out _; (with_reducible repeat (first | refine blk_drewN ?_ _ | refine blk_drew ?_ | refine blk_alloc ?_ _)); exact BK390.out⟩, ⟨by (with_reducible repeat (first | refine blk_drewN ?_ _ | refine blk_drew ?_ | refine blk_alloc ?_ _)); refine blk_put (cs := #[.int .i64 (wrap64 (t393)), .slice none 0 0, .slice none 0 0, .slice none 0 0, .int .i64 0, .int .i64 0, .int .i64 0, .int .i64 0]) ?_ 5 _ rfl; (with_reducible repeat (first | refine blk_drewN ?_ _ | refine blk_drew ?_ | refine blk_alloc ?_ _)); exact BK395.out⟩, ⟨by repeat (first | (with_reducible first | exact HI392.out | apply IsS103.alloc | apply IsS103.drewN | apply IsS103.drew | apply IsS103.set_0 | refine IsS103.far ?_ NB392_390.out _ | refine IsS103.far ?_ NB392_395.out _) | exact HI392.out)⟩, ⟨by repeat (first | (with_reducible first | exact HB.out | apply below_alloc | apply pw_below_drewN | apply below_drew1 | refine below_set ?_ (IsS103.ge HI392.out) | refine below_set ?_ GE390.out | refine below_set ?_ GE395.out) | exact HB.out)⟩⟩
          · rw [if_neg c74] at H
            have c74b0 : ((wrap64 (t393)) == 4) = false := beq_eq_false_iff_ne.mpr c74
            have c74b1 : ((wrap64 (t393)) != 4) = true := bne_iff_ne.mpr c74
            have H' := Aside0.mk H
            clear H
            go_wp2
            go_meet
            case rel => exact ⟨_, (t397), (([] : List ByteArray)), (([] : List ByteArray)), (([] : List Int)), (0), (0), (0), (0), (.slice none 0 0), (.slice none 0 0), (.slice none 0 0), H', ⟨by first | omega | exact Nat.le_refl _⟩, ⟨by first | exact Kd.R_nil _ _ _ _ _ | exact Kd.N_nil _ _ _ _ _ | exact Kd.V_nil _ _ _ _ _ | exact Kd.Q_nil _ _ _ _ _ | exact Kd.S_nil _ _ _ _ _⟩, ⟨by first | exact Kd.R_nil _ _ _ _ _ | exact Kd.N_nil _ _ _ _ _ | exact Kd.V_nil _ _ _ _ _ | exact Kd.Q_nil _ _ _ _ _ | exact Kd.S_nil _ _ _ _ _⟩, ⟨by first | exact Kd.R_nil _ _ _ _ _ | exact Kd.N_nil _ _ _ _ _ | exact Kd.V_nil _ _ _ _ _ | exact Kd.Q_nil _ _ _ _ _ | exact Kd.S_nil _ _ _ _ _⟩, ⟨by (with_reducible repeat (first | refine blk_drewN ?_ _ | refine blk_drew ?_ | refine blk_alloc ?_ _)); exact BK390.out⟩, ⟨by (with_reducible repeat (first | refine blk_drewN ?_ _ | refine blk_drew ?_ | refine blk_alloc ?_ _)); exact BK395.out⟩, ⟨by repeat (first | (with_reducible first | exact HI392.out | apply IsS103.alloc | apply IsS103.drewN | apply IsS103.drew | apply IsS103.set_0 | refine IsS103.far ?_ NB392_390.out _ | refine IsS103.far ?_ NB392_395.out _) | exact HI392.out)⟩, ⟨by repeat (first | (with_reducible first | exact HB.out | apply below_alloc | apply pw_below_drewN | apply below_drew1 | refine below_set ?_ (IsS103.ge HI392.out) | refine below_set ?_ GE390.out | refine below_set ?_ GE395.out) | exact HB.out)⟩⟩
  case rest =>
    clear HC5
    try clear p2
    try clear c3
    try clear c4
    try clear c5
    try clear c6
    try clear p6
    try clear c7
    try clear c34
    try clear c34b0
    try clear c34b1
    try clear c37
    try clear c37b0
    try clear c38
    try clear c38b0
    try clear c40
    try clear c42
    try clear c49
    try clear c50
    try clear c55
    try clear c61
    try clear c61b0
    try clear c61b1
    try clear p64
    try clear c68
    try clear c69
    try clear c74
    try clear c74b0
    try clear c74b1
    try clear c77
    try clear c78
    try clear hcz70_0
    try clear hcz70_1
    try clear hcz70_2
    try clear hcz70_3
    try clear hcz70_4
    try clear hcz70_5
    try clear hcz70_6
    try clear hcz70_7
    try clear hcz73_0
    try clear hcz73_1
    try clear hcz73_2
    try clear hcz73_3
    try clear hcz73_4
    try clear hcz73_5
    try clear hcz73_6
    try clear hcz73_7
    try clear hcz79_0
    try clear hcz79_1
    try clear hcz79_2
    try clear hcz79_3
    try clear hcz79_4
    try clear hcz79_5
    try clear hcz79_6
    try clear hcz79_7
    try clear hfz70_0
    try clear hfz70_1
    try clear hfz70_2
    try clear hfz70_3
    try clear hfz70_4
    try clear hfz70_5
    try clear hfz70_6
    try clear hfz70_7
    try clear hfz73_0
    try clear hfz73_1
    try clear hfz73_2
    try clear hfz73_3
    try clear hfz73_4
    try clear hfz73_5
    try clear hfz73_6
    try clear hfz73_7
    try clear hfz79_0
    try clear hfz79_1
    try clear hfz79_2
    try clear hfz79_3
    try clear hfz79_4
    try clear hfz79_5
    try clear hfz79_6
    try clear hfz79_7
    obtain ⟨kq, x393000_4, x396001_4, x396002_4, x396003_4, x396004_4, x396005_4, x396006_4, x396007_4, u396001, u396002, u396003, HA, HJ4, HO_396001, HO_396002, HO_396003, BK390, BK395, HI392, HB⟩ := hcut
    cases kq with
    | zero => exact absurd HA.out (by simp [page_Decode.j2])
    | succ kj4 =>
      have H := HA.out
      clear HA
      simp only [page_Decode.j2] at H
      replace H := Option.bind_eq_some_iff.mp H
      obtain ⟨⟨t437, t438⟩, A800, H⟩ := H
      replace H : (if 0 ≤ (wrap64 ((l0.length : Int) - t437)) then (if (wrap64 ((l0.length : Int) - t437)) ≤ (l0.length : Int) then ((num_Reader_Err.f t438).bind fun bt440 => (if bt440.1 = 0 then ((page_Page_Right.f kj4 (wrap64 (t393)) x396001_4 x396002_4 x396003_4 x396004_4 x396005_4 x396006_4 x396007_4).bind fun t442 => (if t442 = true then ((slices_ContainsFunc_byte_byte.f (l0.drop ((wrap64 ((l0.length : Int) - t437)) : Int).toNat) 54).bind fun t443 => (if t443 = true then (some (0, ([] : List ByteArray), ([] : List ByteArray), ([] : List Int), 0, 0, 0, 0, 0, 11)) else (some ((wrap64 (t393)), x396001_4, x396002_4, x396003_4, x396004_4, x396005_4, x396006_4, x396007_4, t396, 0)))) else (some (0, ([] : List ByteArray), ([] : List ByteArray), ([] : List Int), 0, 0, 0, 0, 0, 11)))) else (some (0, ([] : List ByteArray), ([] : List ByteArray), ([] : List Int), 0, 0, 0, 0, 0, 11)))) else (none)) else (none)) = some (r1, r2, r3, r4, r5, r6, r7, r8, r9, r10) := H
      have A80 := Aside0.mk A800
      clear A800
      obtain ⟨ji81, hji81⟩ : ∃ j_ : Int, (wrap64 ((l0.length : Int) - t437)) = j_ := ⟨_, rfl⟩
      replace H : (if 0 ≤ (ji81) then (if (ji81) ≤ (l0.length : Int) then ((num_Reader_Err.f t438).bind fun bt440 => (if bt440.1 = 0 then ((page_Page_Right.f kj4 (wrap64 (t393)) x396001_4 x396002_4 x396003_4 x396004_4 x396005_4 x396006_4 x396007_4).bind fun t442 => (if t442 = true then ((slices_ContainsFunc_byte_byte.f (l0.drop ((ji81) : Int).toNat) 54).bind fun t443 => (if t443 = true then (some (0, ([] : List ByteArray), ([] : List ByteArray), ([] : List Int), 0, 0, 0, 0, 0, 11)) else (some ((wrap64 (t393)), x396001_4, x396002_4, x396003_4, x396004_4, x396005_4, x396006_4, x396007_4, t396, 0)))) else (some (0, ([] : List ByteArray), ([] : List ByteArray), ([] : List Int), 0, 0, 0, 0, 0, 11)))) else (some (0, ([] : List ByteArray), ([] : List ByteArray), ([] : List Int), 0, 0, 0, 0, 0, 11)))) else (none)) else (none)) = some (r1, r2, r3, r4, r5, r6, r7, r8, r9, r10) := by first | (rw [hji81] at H; exact H) | (simp only [hji81] at H ⊢; exact H)
      (try rw [hji81] at A80)
      have hji81w : (IntKind.i64.wrap ((l0.length : Int) - t437)) = ji81 := (i64_w _).trans hji81
      by_cases c82 : 0 ≤ (ji81)
      · rw [if_pos c82] at H
        have c82b0 := eq_true c82
        have c82b1 : decide (0 ≤ (ji81)) = true := decide_eq_true c82
        clear c82
        by_cases c83 : (ji81) ≤ (l0.length : Int)
        · rw [if_pos c83] at H
          have c83b0 := eq_true c83
          have c83b1 : decide ((ji81) ≤ (l0.length : Int)) = true := decide_eq_true c83
          clear c83
          replace H := Option.bind_eq_some_iff.mp H
          obtain ⟨⟨t440, t441⟩, A840, H⟩ := H
          replace H : (if t440 = 0 then ((page_Page_Right.f kj4 (wrap64 (t393)) x396001_4 x396002_4 x396003_4 x396004_4 x396005_4 x396006_4 x396007_4).bind fun t442 => (if t442 = true then ((slices_ContainsFunc_byte_byte.f (l0.drop ((ji81) : Int).toNat) 54).bind fun t443 => (if t443 = true then (some (0, ([] : List ByteArray), ([] : List ByteArray), ([] : List Int), 0, 0, 0, 0, 0, 11)) else (some ((wrap64 (t393)), x396001_4, x396002_4, x396003_4, x396004_4, x396005_4, x396006_4, x396007_4, t396, 0)))) else (some (0, ([] : List ByteArray), ([] : List ByteArray), ([] : List Int), 0, 0, 0, 0, 0, 11)))) else (some (0, ([] : List ByteArray), ([] : List ByteArray), ([] : List Int), 0, 0, 0, 0, 0, 11))) = some (r1, r2, r3, r4, r5, r6, r7, r8, r9, r10) := H
          have A84 := Aside0.mk A840
          clear A840
          by_cases c85 : t440 = 0
          · rw [if_pos c85] at H
            have c85b0 : (t440 == 0) = true := beq_iff_eq.mpr c85
            have c85b1 : (t440 != 0) = false := bne_eq_false_iff_eq.mpr c85
            clear c85
            replace H := Option.bind_eq_some_iff.mp H
            obtain ⟨t442, A860, H⟩ := H
            replace H : (if t442 = true then ((slices_ContainsFunc_byte_byte.f (l0.drop ((ji81) : Int).toNat) 54).bind fun t443 => (if t443 = true then (some (0, ([] : List ByteArray), ([] : List ByteArray), ([] : List Int), 0, 0, 0, 0, 0, 11)) else (some ((wrap64 (t393)), x396001_4, x396002_4, x396003_4, x396004_4, x396005_4, x396006_4, x396007_4, t396, 0)))) else (some (0, ([] : List ByteArray), ([] : List ByteArray), ([] : List Int), 0, 0, 0, 0, 0, 11))) = some (r1, r2, r3, r4, r5, r6, r7, r8, r9, r10) := H
            have A86 := Aside0.mk A860
            clear A860
            by_cases c87 : t442 = true
            · subst c87
              have H1 : ((slices_ContainsFunc_byte_byte.f (l0.drop ((ji81) : Int).toNat) 54).bind fun t443 => (if t443 = true then (some (0, ([] : List ByteArray), ([] : List ByteArray), ([] : List Int), 0, 0, 0, 0, 0, 11)) else (some ((wrap64 (t393)), x396001_4, x396002_4, x396003_4, x396004_4, x396005_4, x396006_4, x396007_4, t396, 0)))) = some (r1, r2, r3, r4, r5, r6, r7, r8, r9, r10) := by rw [if_pos rfl] at H; exact H
              clear H
              have H := H1
              clear H1
              replace H := Option.bind_eq_some_iff.mp H
              obtain ⟨t443, A880, H⟩ := H
              replace H : (if t443 = true then (some (0, ([] : List ByteArray), ([] : List ByteArray), ([] : List Int), 0, 0, 0, 0, 0, 11)) else (some ((wrap64 (t393)), x396001_4, x396002_4, x396003_4, x396004_4, x396005_4, x396006_4, x396007_4, t396, 0))) = some (r1, r2, r3, r4, r5, r6, r7, r8, r9, r10) := H
              have A88 := Aside0.mk A880
              clear A880
              by_cases c89 : t443 = true
              · subst c89
                have H1 : (some (0, ([] : List ByteArray), ([] : List ByteArray), ([] : List Int), 0, 0, 0, 0, 0, 11)) = some (r1, r2, r3, r4, r5, r6, r7, r8, r9, r10) := by rw [if_pos rfl] at H; exact H
                clear H
                have H := H1
                clear H1
                simp only [Option.some.injEq, Prod.mk.injEq] at H
                obtain ⟨rfl, rfl, rfl, rfl, rfl, rfl, rfl, rfl, rfl, rfl⟩ := H
                go_wp2_with (first | ((with_reducible refine gate_callee (f := 51) rfl ?_); refine goesL_ (some 94) rfl rfl Try.func51 (by kernel_rfl) rfl #[.pointer (some ⟨g392, 0, none⟩)] rfl (by (try simp only [List.map_toArray, List.map_cons, List.map_nil]); first | done | rfl | (simp only [List.length_drop, List.length_take]; rfl)) ?_; (with_reducible refine (num_Reader_Left.calls g392 x393000_4 t437 t438 w _ ?side1 ?side2 A80.out).mono ?_); (case side1 => repeat (first | (with_reducible first | exact HI392.out | apply IsS103.alloc | apply IsS103.drewN | apply IsS103.drew | apply IsS103.set_0 | refine IsS103.far ?_ NB392_390.out _ | refine IsS103.far ?_ NB392_395.out _) | exact HI392.out)); (case side2 => repeat (first | (with_reducible first | exact HB.out | apply below_alloc | apply pw_below_drewN | apply below_drew1 | refine below_set ?_ (IsS103.ge HI392.out) | refine below_set ?_ GE390.out | refine below_set ?_ GE395.out) | exact HB.out)); rintro e w90 ⟨rfl, hi, hb, hk⟩; refine ⟨_, rfl, ?_⟩; have n0_ := Aside0.mk (Kd.R_mono (Kd.R_keep (IsS103.apart (show IsS103 w _ g392 x393000_4 from by repeat (first | (with_reducible first | exact HI392.out | apply IsS103.alloc | apply IsS103.drewN | apply IsS103.drew | apply IsS103.set_0 | refine IsS103.far ?_ NB392_390.out _ | refine IsS103.far ?_ NB392_395.out _) | exact HI392.out)) (by (with_reducible repeat (first | apply Kd.R_alloc | apply Kd.R_drewN | apply Kd.R_drew)); exact HO_396001.out) (by decide)) hk (fun _ h => h.2)) (fun _ h => h.1)); have n1_ := Aside0.mk (Kd.R_mono (Kd.R_keep (IsS103.apart (show IsS103 w _ g392 x393000_4 from by repeat (first | (with_reducible first | exact HI392.out | apply IsS103.alloc | apply IsS103.drewN | apply IsS103.drew | apply IsS103.set_0 | refine IsS103.far ?_ NB392_390.out _ | refine IsS103.far ?_ NB392_395.out _) | exact HI392.out)) (by (with_reducible repeat (first | apply Kd.R_alloc | apply Kd.R_drewN | apply Kd.R_drew)); exact HO_396002.out) (by decide)) hk (fun _ h => h.2)) (fun _ h => h.1)); have n2_ := Aside0.mk (Kd.R_mono (Kd.R_keep (IsS103.apart (show IsS103 w _ g392 x393000_4 from by repeat (first | (with_reducible first | exact HI392.out | apply IsS103.alloc | apply IsS103.drewN | apply IsS103.drew | apply IsS103.set_0 | refine IsS103.far ?_ NB392_390.out _ | refine IsS103.far ?_ NB392_395.out _) | exact HI392.out)) (by (with_reducible repeat (first | apply Kd.R_alloc | apply Kd.R_drewN | apply Kd.R_drew)); exact HO_396003.out) (by decide)) hk (fun _ h => h.2)) (fun _ h => h.1)); have n3_ := Aside0.mk (KeepBut.blk hk (g' := gb390) (o := .cells #[.int .i64 0, .slice none 0 0, .slice none 0 0, .slice none 0 0, .int .i64 0, .int .i64 0, .int .i64 0, .int .i64 0] 27 (0, 0)) (by (with_reducible repeat (first | refine blk_drewN ?_ _ | refine blk_drew ?_ | refine blk_alloc ?_ _)); exact BK390.out) NB390_392.out (by simp)); have n4_ := Aside0.mk (KeepBut.blk hk (g' := gb395) (o := .cells #[.int .i64 (wrap64 (t393)), u396001, u396002, u396003, .int .i64 x396004_4, .int .i64 x396005_4, .int .i64 x396006_4, .int .i64 x396007_4] 27 (0, 0)) (by (with_reducible repeat (first | refine blk_drewN ?_ _ | refine blk_drew ?_ | refine blk_alloc ?_ _)); exact BK395.out) NB395_392.out (by simp)); have n5_ := Aside0.mk (hb); have n6_ := Aside0.mk (hi); clear HO_396001; clear HO_396002; clear HO_396003; clear BK390; clear BK395; clear HB; clear HI392; have HO_396001 := n0_; have HO_396002 := n1_; have HO_396003 := n2_; have BK390 := n3_; have BK395 := n4_; have HB := n5_; have HI392 := n6_; clear n0_ n1_ n2_ n3_ n4_ n5_ n6_; (try clear hb); (try clear hb2); (try clear hk); (try clear hi); obtain ⟨i091, hi091, _, hsz91, _⟩ := info_parts info5; obtain ⟨A91, hcut91, hA91, hC91⟩ := print_drop_of (P := Try.prog) (Value.int .u8) 0 28 5 .i64 Try.underlying28 hi091 hsz91 A0 c0 l0 (ji81) (of_decide_eq_true (by first | (with_reducible assumption) | assumption)) (of_decide_eq_true (by first | (with_reducible assumption) | assumption)) HC0.out; have HR439 := Aside0.mk (Kd.C_of_reads (h1 := fun _ => rfl) (hA91 _ (Kd.reads_of_C HR0.out))); have HC439 := Aside0.mk hC91; clear hA91 hC91 hi091 hsz91) | ((with_reducible refine gate_callee (f := 52) rfl ?_); refine goesL_ (some 98) rfl rfl Try.func52 (by kernel_rfl) rfl #[.pointer (some ⟨g392, 0, none⟩)] rfl (by (try simp only [List.map_toArray, List.map_cons, List.map_nil]); first | done | rfl | (simp only [List.length_drop, List.length_take]; rfl)) ?_; (with_reducible refine (num_Reader_Err.calls g392 t438 t440 t441 w _ ?side1 ?side2 A84.out).mono ?_); (case side1 => repeat (first | (with_reducible first | exact HI392.out | apply IsS103.alloc | apply IsS103.drewN | apply IsS103.drew | apply IsS103.set_0 | refine IsS103.far ?_ NB392_390.out _ | refine IsS103.far ?_ NB392_395.out _) | exact HI392.out)); (case side2 => repeat (first | (with_reducible first | exact HB.out | apply below_alloc | apply pw_below_drewN | apply below_drew1 | refine below_set ?_ (IsS103.ge HI392.out) | refine below_set ?_ GE390.out | refine below_set ?_ GE395.out) | exact HB.out)); rintro e w92 ⟨rfl, hi, hb, hk⟩; refine ⟨_, rfl, ?_⟩; have n0_ := Aside0.mk (Kd.R_mono (Kd.R_keep (IsS103.apart (show IsS103 w _ g392 t438 from by repeat (first | (with_reducible first | exact HI392.out | apply IsS103.alloc | apply IsS103.drewN | apply IsS103.drew | apply IsS103.set_0 | refine IsS103.far ?_ NB392_390.out _ | refine IsS103.far ?_ NB392_395.out _) | exact HI392.out)) (by (with_reducible repeat (first | apply Kd.R_alloc | apply Kd.R_drewN | apply Kd.R_drew)); exact HO_396001.out) (by decide)) hk (fun _ h => h.2)) (fun _ h => h.1)); have n1_ := Aside0.mk (Kd.R_mono (Kd.R_keep (IsS103.apart (show IsS103 w _ g392 t438 from by repeat (first | (with_reducible first | exact HI392.out | apply IsS103.alloc | apply IsS103.drewN | apply IsS103.drew | apply IsS103.set_0 | refine IsS103.far ?_ NB392_390.out _ | refine IsS103.far ?_ NB392_395.out _) | exact HI392.out)) (by (with_reducible repeat (first | apply Kd.R_alloc | apply Kd.R_drewN | apply Kd.R_drew)); exact HO_396002.out) (by decide)) hk (fun _ h => h.2)) (fun _ h => h.1)); have n2_ := Aside0.mk (Kd.R_mono (Kd.R_keep (IsS103.apart (show IsS103 w _ g392 t438 from by repeat (first | (with_reducible first | exact HI392.out | apply IsS103.alloc | apply IsS103.drewN | apply IsS103.drew | apply IsS103.set_0 | refine IsS103.far ?_ NB392_390.out _ | refine IsS103.far ?_ NB392_395.out _) | exact HI392.out)) (by (with_reducible repeat (first | apply Kd.R_alloc | apply Kd.R_drewN | apply Kd.R_drew)); exact HO_396003.out) (by decide)) hk (fun _ h => h.2)) (fun _ h => h.1)); have n3_ := Aside0.mk (KeepBut.blk hk (g' := gb390) (o := .cells #[.int .i64 0, .slice none 0 0, .slice none 0 0, .slice none 0 0, .int .i64 0, .int .i64 0, .int .i64 0, .int .i64 0] 27 (0, 0)) (by (with_reducible repeat (first | refine blk_drewN ?_ _ | refine blk_drew ?_ | refine blk_alloc ?_ _)); exact BK390.out) NB390_392.out (by simp)); have n4_ := Aside0.mk (KeepBut.blk hk (g' := gb395) (o := .cells #[.int .i64 (wrap64 (t393)), u396001, u396002, u396003, .int .i64 x396004_4, .int .i64 x396005_4, .int .i64 x396006_4, .int .i64 x396007_4] 27 (0, 0)) (by (with_reducible repeat (first | refine blk_drewN ?_ _ | refine blk_drew ?_ | refine blk_alloc ?_ _)); exact BK395.out) NB395_392.out (by simp)); have n5_ := Aside0.mk (hb); have n6_ := Aside0.mk (hi); clear HO_396001; clear HO_396002; clear HO_396003; clear BK390; clear BK395; clear HB; clear HI392; have HO_396001 := n0_; have HO_396002 := n1_; have HO_396003 := n2_; have BK390 := n3_; have BK395 := n4_; have HB := n5_; have HI392 := n6_; clear n0_ n1_ n2_ n3_ n4_ n5_ n6_; (try clear hb); (try clear hb2); (try clear hk); (try clear hi); have hnb93 := NB395_390.out; have hnc93 := NB390_395.out; have hnb94 := NB395_392.out; have hnc94 := NB392_395.out; have hcz95_0 : w92.cell? ⟨gb395, 0, none⟩ = some (.int .i64 (wrap64 (t393))) := (blk_cell BK395.out 0).trans rfl; have hcz95_1 : w92.cell? ⟨gb395, 1, none⟩ = some (u396001) := (blk_cell BK395.out 1).trans rfl; have hcz95_2 : w92.cell? ⟨gb395, 2, none⟩ = some (u396002) := (blk_cell BK395.out 2).trans rfl; have hcz95_3 : w92.cell? ⟨gb395, 3, none⟩ = some (u396003) := (blk_cell BK395.out 3).trans rfl; have hcz95_4 : w92.cell? ⟨gb395, 4, none⟩ = some (.int .i64 x396004_4) := (blk_cell BK395.out 4).trans rfl; have hcz95_5 : w92.cell? ⟨gb395, 5, none⟩ = some (.int .i64 x396005_4) := (blk_cell BK395.out 5).trans rfl; have hcz95_6 : w92.cell? ⟨gb395, 6, none⟩ = some (.int .i64 x396006_4) := (blk_cell BK395.out 6).trans rfl; have hcz95_7 : w92.cell? ⟨gb395, 7, none⟩ = some (.int .i64 x396007_4) := (blk_cell BK395.out 7).trans rfl; have hfz95_0 := blk_frozen BK395.out 0; have hfz95_1 := blk_frozen BK395.out 1; have hfz95_2 := blk_frozen BK395.out 2; have hfz95_3 := blk_frozen BK395.out 3; have hfz95_4 := blk_frozen BK395.out 4; have hfz95_5 := blk_frozen BK395.out 5; have hfz95_6 := blk_frozen BK395.out 6; have hfz95_7 := blk_frozen BK395.out 7; obtain ⟨Ao96, co96, eo96⟩ := Kd.R_slice HO_396001.out; subst eo96; obtain ⟨Ao97, co97, eo97⟩ := Kd.R_slice HO_396002.out; subst eo97; obtain ⟨Ao98, co98, eo98⟩ := Kd.R_slice HO_396003.out; subst eo98) | (go_at_call 17; (with_reducible refine (page_Page_Right.calls kj4 (wrap64 (t393)) _ _ x396001_4 _ _ x396002_4 _ _ x396003_4 x396004_4 x396005_4 x396006_4 x396007_4 true _ ?side1 ?side2 ?side3 ?side4 ?side5 ?side6 A86.out).mono ?_); (case side1 => repeat (first | exact (Kd.R_reads' HO_396001.out).2.2 | (with_reducible refine Kd.C_alloc ?_ _) | (with_reducible refine Kd.C_drewN ?_ _) | (with_reducible refine Kd.C_drew ?_))); (case side2 => exact (Kd.R_reads' HO_396001.out).2.1); (case side3 => repeat (first | exact (Kd.R_reads' HO_396002.out).2.2 | (with_reducible refine Kd.C_alloc ?_ _) | (with_reducible refine Kd.C_drewN ?_ _) | (with_reducible refine Kd.C_drew ?_))); (case side4 => exact (Kd.R_reads' HO_396002.out).2.1); (case side5 => repeat (first | exact (Kd.R_reads' HO_396003.out).2.2 | (with_reducible refine Kd.C_alloc ?_ _) | (with_reducible refine Kd.C_drewN ?_ _) | (with_reducible refine Kd.C_drew ?_))); (case side6 => exact (Kd.R_reads' HO_396003.out).2.1); rintro e w99 ⟨rfl, hb⟩; have n0_ := Aside0.mk (Kd.R_below (by (with_reducible repeat (first | apply Kd.R_alloc | apply Kd.R_drewN | apply Kd.R_drew)); exact HO_396001.out) hb); have n1_ := Aside0.mk (Kd.R_below (by (with_reducible repeat (first | apply Kd.R_alloc | apply Kd.R_drewN | apply Kd.R_drew)); exact HO_396002.out) hb); have n2_ := Aside0.mk (Kd.R_below (by (with_reducible repeat (first | apply Kd.R_alloc | apply Kd.R_drewN | apply Kd.R_drew)); exact HO_396003.out) hb); have n3_ := Aside0.mk (blk_below (g := gb390) (o := .cells #[.int .i64 0, .slice none 0 0, .slice none 0 0, .slice none 0 0, .int .i64 0, .int .i64 0, .int .i64 0, .int .i64 0] 27 (0, 0)) (by (with_reducible repeat (first | refine blk_drewN ?_ _ | refine blk_drew ?_ | refine blk_alloc ?_ _)); exact BK390.out) hb); have n4_ := Aside0.mk (blk_below (g := gb395) (o := .cells #[.int .i64 (wrap64 (t393)), .slice Ao96 x396001_4.length co96, .slice Ao97 x396002_4.length co97, .slice Ao98 x396003_4.length co98, .int .i64 x396004_4, .int .i64 x396005_4, .int .i64 x396006_4, .int .i64 x396007_4] 27 (0, 0)) (by (with_reducible repeat (first | refine blk_drewN ?_ _ | refine blk_drew ?_ | refine blk_alloc ?_ _)); exact BK395.out) hb); have n5_ := Aside0.mk (IsS103.below (by repeat (first | (with_reducible first | exact HI392.out | apply IsS103.alloc | apply IsS103.drewN | apply IsS103.drew | apply IsS103.set_0 | refine IsS103.far ?_ NB392_390.out _ | refine IsS103.far ?_ NB392_395.out _) | exact HI392.out)) hb); have n6_ := Aside0.mk (below_step (by repeat (first | (with_reducible first | exact HB.out | apply below_alloc | apply pw_below_drewN | apply below_drew1 | refine below_set ?_ (IsS103.ge HI392.out) | refine below_set ?_ GE390.out | refine below_set ?_ GE395.out) | exact HB.out)) hb); clear HO_396001; clear HO_396002; clear HO_396003; clear BK390; clear BK395; clear HI392; clear HB; have HO_396001 := n0_; have HO_396002 := n1_; have HO_396003 := n2_; have BK390 := n3_; have BK395 := n4_; have HI392 := n5_; have HB := n6_; clear n0_ n1_ n2_ n3_ n4_ n5_ n6_; (try clear hb); (try clear hb2); (try clear hk); (try clear hi)) | (go_at_call 53; refine calls_of_args (args' := #[.slice A91 (l0.drop ((ji81) : Int).toNat).length (c0 - (ji81).toNat), .func (.func 54) #[] #[]]) (by first | rfl | (simp only [List.length_drop, List.length_take]; done) | (simp only [List.length_drop, List.length_take]; rfl)) ?_; (with_reducible refine (slices_ContainsFunc_byte_byte.calls _ _ (l0.drop ((ji81) : Int).toNat) 54 true _ ?side1 ?side2 A88.out).mono ?_); (case side1 => repeat (first | exact (Kd.C_below HR439.out HB.out) | (with_reducible refine Kd.C_alloc ?_ _) | (with_reducible refine Kd.C_drewN ?_ _) | (with_reducible refine Kd.C_drew ?_))); (case side2 => exact HC439.out); rintro e w' ⟨rfl, ⟨nd, rfl⟩⟩; (try (rw [drewN_self w99]; generalize hq_ : World.drewN w99 _ = w99; have n0_ : Aside0 (Kd.R Kd.string 9 w99 w.heap.size (fun k_ => some k_ ≠ (.slice Ao97 x396002_4.length co97 : Value).ownBlock) (.slice Ao96 x396001_4.length co96) x396001_4) := ⟨by rw [← hq_]; exact (by (with_reducible repeat (first | apply Kd.R_alloc | apply Kd.R_drewN | apply Kd.R_drew)); exact HO_396001.out)⟩; have n1_ : Aside0 (Kd.R Kd.string 9 w99 w.heap.size (fun k_ => some k_ ≠ (.slice Ao96 x396001_4.length co96 : Value).ownBlock) (.slice Ao97 x396002_4.length co97) x396002_4) := ⟨by rw [← hq_]; exact (by (with_reducible repeat (first | apply Kd.R_alloc | apply Kd.R_drewN | apply Kd.R_drew)); exact HO_396002.out)⟩; have n2_ : Aside0 (Kd.R (Kd.int .i64) 3 w99 w.heap.size (fun _ => True) (.slice Ao98 x396003_4.length co98) x396003_4) := ⟨by rw [← hq_]; exact (by (with_reducible repeat (first | apply Kd.R_alloc | apply Kd.R_drewN | apply Kd.R_drew)); exact HO_396003.out)⟩; have n3_ : Aside0 (w99.heap[gb390]? = some (.cells #[.int .i64 0, .slice none 0 0, .slice none 0 0, .slice none 0 0, .int .i64 0, .int .i64 0, .int .i64 0, .int .i64 0] 27 (0, 0))) := ⟨by rw [← hq_]; exact (by (with_reducible repeat (first | refine blk_drewN ?_ _ | refine blk_drew ?_ | refine blk_alloc ?_ _)); exact BK390.out)⟩; have n4_ : Aside0 (w99.heap[gb395]? = some (.cells #[.int .i64 (wrap64 (t393)), .slice Ao96 x396001_4.length co96, .slice Ao97 x396002_4.length co97, .slice Ao98 x396003_4.length co98, .int .i64 x396004_4, .int .i64 x396005_4, .int .i64 x396006_4, .int .i64 x396007_4] 27 (0, 0))) := ⟨by rw [← hq_]; exact (by (with_reducible repeat (first | refine blk_drewN ?_ _ | refine blk_drew ?_ | refine blk_alloc ?_ _)); exact BK395.out)⟩; have n5_ : Aside0 (IsS103 w w99 g392 t441) := ⟨by rw [← hq_]; exact (by repeat (first | (with_reducible first | exact HI392.out | apply IsS103.alloc | apply IsS103.drewN | apply IsS103.drew | apply IsS103.set_0 | refine IsS103.far ?_ NB392_390.out _ | refine IsS103.far ?_ NB392_395.out _) | exact HI392.out))⟩; have n6_ : Aside0 (Below w.heap.size w w99) := ⟨by rw [← hq_]; exact (by repeat (first | (with_reducible first | exact HB.out | apply below_alloc | apply pw_below_drewN | apply below_drew1 | refine below_set ?_ (IsS103.ge HI392.out) | refine below_set ?_ GE390.out | refine below_set ?_ GE395.out) | exact HB.out))⟩; clear HO_396001 HO_396002 HO_396003 BK390 BK395 HI392 HB hq_; have HO_396001 := n0_; have HO_396002 := n1_; have HO_396003 := n2_; have BK390 := n3_; have BK395 := n4_; have HI392 := n5_; have HB := n6_; clear n0_ n1_ n2_ n3_ n4_ n5_ n6_)); have hnb100 := NB390_392.out; have hnc100 := NB392_390.out; have hcz101_0 : w99.cell? ⟨gb390, 0, none⟩ = some (.int .i64 0) := (blk_cell BK390.out 0).trans rfl; have hcz101_1 : w99.cell? ⟨gb390, 1, none⟩ = some (.slice none 0 0) := (blk_cell BK390.out 1).trans rfl; have hcz101_2 : w99.cell? ⟨gb390, 2, none⟩ = some (.slice none 0 0) := (blk_cell BK390.out 2).trans rfl; have hcz101_3 : w99.cell? ⟨gb390, 3, none⟩ = some (.slice none 0 0) := (blk_cell BK390.out 3).trans rfl; have hcz101_4 : w99.cell? ⟨gb390, 4, none⟩ = some (.int .i64 0) := (blk_cell BK390.out 4).trans rfl; have hcz101_5 : w99.cell? ⟨gb390, 5, none⟩ = some (.int .i64 0) := (blk_cell BK390.out 5).trans rfl; have hcz101_6 : w99.cell? ⟨gb390, 6, none⟩ = some (.int .i64 0) := (blk_cell BK390.out 6).trans rfl; have hcz101_7 : w99.cell? ⟨gb390, 7, none⟩ = some (.int .i64 0) := (blk_cell BK390.out 7).trans rfl; have hfz101_0 := blk_frozen BK390.out 0; have hfz101_1 := blk_frozen BK390.out 1; have hfz101_2 := blk_frozen BK390.out 2; have hfz101_3 := blk_frozen BK390.out 3; have hfz101_4 := blk_frozen BK390.out 4; have hfz101_5 := blk_frozen BK390.out 5; have hfz101_6 := blk_frozen BK390.out 6; have hfz101_7 := blk_frozen BK390.out 7))
                refine bodyPost_ret (results_ctt rfl _ _ gb390 27 #[.int .i64 0, .slice none 0 0, .slice none 0 0, .slice none 0 0, .int .i64 0, .int .i64 0, .int .i64 0, .int .i64 0] (0, 0) _ rfl (by (with_reducible repeat (first | refine blk_drewN ?_ _ | refine blk_drew ?_ | refine blk_alloc ?_ _)); refine blk_put (cs := #[.int .i64 0, .slice none 0 0, .slice none 0 0, .slice none 0 0, .int .i64 0, .int .i64 0, .int .i64 0, .int .i64 0]) ?_ 7 _ rfl; (with_reducible repeat (first | refine blk_drewN ?_ _ | refine blk_drew ?_ | refine blk_alloc ?_ _)); refine blk_put (cs := #[.int .i64 0, .slice none 0 0, .slice none 0 0, .slice none 0 0, .int .i64 0, .int .i64 0, .int .i64 0, .int .i64 0]) ?_ 6 _ rfl; (with_reducible repeat (first | refine blk_drewN ?_ _ | refine blk_drew ?_ | refine blk_alloc ?_ _)); refine blk_put (cs := #[.int .i64 0, .slice none 0 0, .slice none 0 0, .slice none 0 0, .int .i64 0, .int .i64 0, .int .i64 0, .int .i64 0]) ?_ 5 _ rfl; (with_reducible repeat (first | refine blk_drewN ?_ _ | refine blk_drew ?_ | refine blk_alloc ?_ _)); refine blk_put (cs := #[.int .i64 0, .slice none 0 0, .slice none 0 0, .slice none 0 0, .int .i64 0, .int .i64 0, .int .i64 0, .int .i64 0]) ?_ 4 _ rfl; (with_reducible repeat (first | refine blk_drewN ?_ _ | refine blk_drew ?_ | refine blk_alloc ?_ _)); refine blk_put (cs := #[.int .i64 0, .slice none 0 0, .slice none 0 0, .slice none 0 0, .int .i64 0, .int .i64 0, .int .i64 0, .int .i64 0]) ?_ 3 _ rfl; (with_reducible repeat (first | refine blk_drewN ?_ _ | refine blk_drew ?_ | refine blk_alloc ?_ _)); refine blk_put (cs := #[.int .i64 0, .slice none 0 0, .slice none 0 0, .slice none 0 0, .int .i64 0, .int .i64 0, .int .i64 0, .int .i64 0]) ?_ 2 _ rfl; (with_reducible repeat (first | refine blk_drewN ?_ _ | refine blk_drew ?_ | refine blk_alloc ?_ _)); refine blk_put (cs := #[.int .i64 0, .slice none 0 0, .slice none 0 0, .slice none 0 0, .int .i64 0, .int .i64 0, .int .i64 0, .int .i64 0]) ?_ 1 _ rfl; (with_reducible repeat (first | refine blk_drewN ?_ _ | refine blk_drew ?_ | refine blk_alloc ?_ _)); refine blk_put (cs := #[.int .i64 0, .slice none 0 0, .slice none 0 0, .slice none 0 0, .int .i64 0, .int .i64 0, .int .i64 0, .int .i64 0]) ?_ 0 _ rfl; (with_reducible repeat (first | refine blk_drewN ?_ _ | refine blk_drew ?_ | refine blk_alloc ?_ _)); exact BK390.out) Try.underlying27 rfl (by kernel_rfl)) rfl ?_
                exact ⟨_, _, _, by first | rfl | (simp [errW_none, errW_some] <;> rfl) | (simp only [← hji81]; first | rfl | (simp [errW_none, errW_some] <;> rfl)) | (simp [*, errW_none, errW_some] <;> rfl), by first | exact Kd.R_nil _ _ _ _ _ | exact Kd.N_nil _ _ _ _ _ | exact Kd.V_nil _ _ _ _ _ | exact Kd.Q_nil _ _ _ _ _ | exact Kd.S_nil _ _ _ _ _, by first | exact Kd.R_nil _ _ _ _ _ | exact Kd.N_nil _ _ _ _ _ | exact Kd.V_nil _ _ _ _ _ | exact Kd.Q_nil _ _ _ _ _ | exact Kd.S_nil _ _ _ _ _, by first | exact Kd.R_nil _ _ _ _ _ | exact Kd.N_nil _ _ _ _ _ | exact Kd.V_nil _ _ _ _ _ | exact Kd.Q_nil _ _ _ _ _ | exact Kd.S_nil _ _ _ _ _, by repeat (first | (with_reducible first | exact HB.out | apply below_alloc | apply pw_below_drewN | apply below_drew1 | refine below_set ?_ (IsS103.ge HI392.out) | refine below_set ?_ GE390.out | refine below_set ?_ GE395.out) | exact HB.out)⟩
              · replace c89 := Bool.eq_false_iff.mpr c89
                subst c89
                have H1 : (some ((wrap64 (t393)), x396001_4, x396002_4, x396003_4, x396004_4, x396005_4, x396006_4, x396007_4, t396, 0)) = some (r1, r2, r3, r4, r5, r6, r7, r8, r9, r10) := by rw [if_neg (show ¬ (false = true) by decide)] at H; exact H
                clear H
                have H := H1
                clear H1
                simp only [Option.some.injEq, Prod.mk.injEq] at H
                obtain ⟨rfl, rfl, rfl, rfl, rfl, rfl, rfl, rfl, rfl, rfl⟩ := H
                go_wp2_with (first | ((with_reducible refine gate_callee (f := 51) rfl ?_); refine goesL_ (some 94) rfl rfl Try.func51 (by kernel_rfl) rfl #[.pointer (some ⟨g392, 0, none⟩)] rfl (by (try simp only [List.map_toArray, List.map_cons, List.map_nil]); first | done | rfl | (simp only [List.length_drop, List.length_take]; rfl)) ?_; (with_reducible refine (num_Reader_Left.calls g392 x393000_4 t437 t438 w _ ?side1 ?side2 A80.out).mono ?_); (case side1 => repeat (first | (with_reducible first | exact HI392.out | apply IsS103.alloc | apply IsS103.drewN | apply IsS103.drew | apply IsS103.set_0 | refine IsS103.far ?_ NB392_390.out _ | refine IsS103.far ?_ NB392_395.out _) | exact HI392.out)); (case side2 => repeat (first | (with_reducible first | exact HB.out | apply below_alloc | apply pw_below_drewN | apply below_drew1 | refine below_set ?_ (IsS103.ge HI392.out) | refine below_set ?_ GE390.out | refine below_set ?_ GE395.out) | exact HB.out)); rintro e w102 ⟨rfl, hi, hb, hk⟩; refine ⟨_, rfl, ?_⟩; have n0_ := Aside0.mk (Kd.R_mono (Kd.R_keep (IsS103.apart (show IsS103 w _ g392 x393000_4 from by repeat (first | (with_reducible first | exact HI392.out | apply IsS103.alloc | apply IsS103.drewN | apply IsS103.drew | apply IsS103.set_0 | refine IsS103.far ?_ NB392_390.out _ | refine IsS103.far ?_ NB392_395.out _) | exact HI392.out)) (by (with_reducible repeat (first | apply Kd.R_alloc | apply Kd.R_drewN | apply Kd.R_drew)); exact HO_396001.out) (by decide)) hk (fun _ h => h.2)) (fun _ h => h.1)); have n1_ := Aside0.mk (Kd.R_mono (Kd.R_keep (IsS103.apart (show IsS103 w _ g392 x393000_4 from by repeat (first | (with_reducible first | exact HI392.out | apply IsS103.alloc | apply IsS103.drewN | apply IsS103.drew | apply IsS103.set_0 | refine IsS103.far ?_ NB392_390.out _ | refine IsS103.far ?_ NB392_395.out _) | exact HI392.out)) (by (with_reducible repeat (first | apply Kd.R_alloc | apply Kd.R_drewN | apply Kd.R_drew)); exact HO_396002.out) (by decide)) hk (fun _ h => h.2)) (fun _ h => h.1)); have n2_ := Aside0.mk (Kd.R_mono (Kd.R_keep (IsS103.apart (show IsS103 w _ g392 x393000_4 from by repeat (first | (with_reducible first | exact HI392.out | apply IsS103.alloc | apply IsS103.drewN | apply IsS103.drew | apply IsS103.set_0 | refine IsS103.far ?_ NB392_390.out _ | refine IsS103.far ?_ NB392_395.out _) | exact HI392.out)) (by (with_reducible repeat (first | apply Kd.R_alloc | apply Kd.R_drewN | apply Kd.R_drew)); exact HO_396003.out) (by decide)) hk (fun _ h => h.2)) (fun _ h => h.1)); have n3_ := Aside0.mk (KeepBut.blk hk (g' := gb390) (o := .cells #[.int .i64 0, .slice none 0 0, .slice none 0 0, .slice none 0 0, .int .i64 0, .int .i64 0, .int .i64 0, .int .i64 0] 27 (0, 0)) (by (with_reducible repeat (first | refine blk_drewN ?_ _ | refine blk_drew ?_ | refine blk_alloc ?_ _)); exact BK390.out) NB390_392.out (by simp)); have n4_ := Aside0.mk (KeepBut.blk hk (g' := gb395) (o := .cells #[.int .i64 (wrap64 (t393)), u396001, u396002, u396003, .int .i64 x396004_4, .int .i64 x396005_4, .int .i64 x396006_4, .int .i64 x396007_4] 27 (0, 0)) (by (with_reducible repeat (first | refine blk_drewN ?_ _ | refine blk_drew ?_ | refine blk_alloc ?_ _)); exact BK395.out) NB395_392.out (by simp)); have n5_ := Aside0.mk (hb); have n6_ := Aside0.mk (hi); clear HO_396001; clear HO_396002; clear HO_396003; clear BK390; clear BK395; clear HB; clear HI392; have HO_396001 := n0_; have HO_396002 := n1_; have HO_396003 := n2_; have BK390 := n3_; have BK395 := n4_; have HB := n5_; have HI392 := n6_; clear n0_ n1_ n2_ n3_ n4_ n5_ n6_; (try clear hb); (try clear hb2); (try clear hk); (try clear hi); obtain ⟨i0103, hi0103, _, hsz103, _⟩ := info_parts info5; obtain ⟨A103, hcut103, hA103, hC103⟩ := print_drop_of (P := Try.prog) (Value.int .u8) 0 28 5 .i64 Try.underlying28 hi0103 hsz103 A0 c0 l0 (ji81) (of_decide_eq_true (by first | (with_reducible assumption) | assumption)) (of_decide_eq_true (by first | (with_reducible assumption) | assumption)) HC0.out; have HR439 := Aside0.mk (Kd.C_of_reads (h1 := fun _ => rfl) (hA103 _ (Kd.reads_of_C HR0.out))); have HC439 := Aside0.mk hC103; clear hA103 hC103 hi0103 hsz103) | ((with_reducible refine gate_callee (f := 52) rfl ?_); refine goesL_ (some 98) rfl rfl Try.func52 (by kernel_rfl) rfl #[.pointer (some ⟨g392, 0, none⟩)] rfl (by (try simp only [List.map_toArray, List.map_cons, List.map_nil]); first | done | rfl | (simp only [List.length_drop, List.length_take]; rfl)) ?_; (with_reducible refine (num_Reader_Err.calls g392 t438 t440 t441 w _ ?side1 ?side2 A84.out).mono ?_); (case side1 => repeat (first | (with_reducible first | exact HI392.out | apply IsS103.alloc | apply IsS103.drewN | apply IsS103.drew | apply IsS103.set_0 | refine IsS103.far ?_ NB392_390.out _ | refine IsS103.far ?_ NB392_395.out _) | exact HI392.out)); (case side2 => repeat (first | (with_reducible first | exact HB.out | apply below_alloc | apply pw_below_drewN | apply below_drew1 | refine below_set ?_ (IsS103.ge HI392.out) | refine below_set ?_ GE390.out | refine below_set ?_ GE395.out) | exact HB.out)); rintro e w104 ⟨rfl, hi, hb, hk⟩; refine ⟨_, rfl, ?_⟩; have n0_ := Aside0.mk (Kd.R_mono (Kd.R_keep (IsS103.apart (show IsS103 w _ g392 t438 from by repeat (first | (with_reducible first | exact HI392.out | apply IsS103.alloc | apply IsS103.drewN | apply IsS103.drew | apply IsS103.set_0 | refine IsS103.far ?_ NB392_390.out _ | refine IsS103.far ?_ NB392_395.out _) | exact HI392.out)) (by (with_reducible repeat (first | apply Kd.R_alloc | apply Kd.R_drewN | apply Kd.R_drew)); exact HO_396001.out) (by decide)) hk (fun _ h => h.2)) (fun _ h => h.1)); have n1_ := Aside0.mk (Kd.R_mono (Kd.R_keep (IsS103.apart (show IsS103 w _ g392 t438 from by repeat (first | (with_reducible first | exact HI392.out | apply IsS103.alloc | apply IsS103.drewN | apply IsS103.drew | apply IsS103.set_0 | refine IsS103.far ?_ NB392_390.out _ | refine IsS103.far ?_ NB392_395.out _) | exact HI392.out)) (by (with_reducible repeat (first | apply Kd.R_alloc | apply Kd.R_drewN | apply Kd.R_drew)); exact HO_396002.out) (by decide)) hk (fun _ h => h.2)) (fun _ h => h.1)); have n2_ := Aside0.mk (Kd.R_mono (Kd.R_keep (IsS103.apart (show IsS103 w _ g392 t438 from by repeat (first | (with_reducible first | exact HI392.out | apply IsS103.alloc | apply IsS103.drewN | apply IsS103.drew | apply IsS103.set_0 | refine IsS103.far ?_ NB392_390.out _ | refine IsS103.far ?_ NB392_395.out _) | exact HI392.out)) (by (with_reducible repeat (first | apply Kd.R_alloc | apply Kd.R_drewN | apply Kd.R_drew)); exact HO_396003.out) (by decide)) hk (fun _ h => h.2)) (fun _ h => h.1)); have n3_ := Aside0.mk (KeepBut.blk hk (g' := gb390) (o := .cells #[.int .i64 0, .slice none 0 0, .slice none 0 0, .slice none 0 0, .int .i64 0, .int .i64 0, .int .i64 0, .int .i64 0] 27 (0, 0)) (by (with_reducible repeat (first | refine blk_drewN ?_ _ | refine blk_drew ?_ | refine blk_alloc ?_ _)); exact BK390.out) NB390_392.out (by simp)); have n4_ := Aside0.mk (KeepBut.blk hk (g' := gb395) (o := .cells #[.int .i64 (wrap64 (t393)), u396001, u396002, u396003, .int .i64 x396004_4, .int .i64 x396005_4, .int .i64 x396006_4, .int .i64 x396007_4] 27 (0, 0)) (by (with_reducible repeat (first | refine blk_drewN ?_ _ | refine blk_drew ?_ | refine blk_alloc ?_ _)); exact BK395.out) NB395_392.out (by simp)); have n5_ := Aside0.mk (hb); have n6_ := Aside0.mk (hi); clear HO_396001; clear HO_396002; clear HO_396003; clear BK390; clear BK395; clear HB; clear HI392; have HO_396001 := n0_; have HO_396002 := n1_; have HO_396003 := n2_; have BK390 := n3_; have BK395 := n4_; have HB := n5_; have HI392 := n6_; clear n0_ n1_ n2_ n3_ n4_ n5_ n6_; (try clear hb); (try clear hb2); (try clear hk); (try clear hi); have hnb105 := NB395_390.out; have hnc105 := NB390_395.out; have hnb106 := NB395_392.out; have hnc106 := NB392_395.out; have hcz107_0 : w104.cell? ⟨gb395, 0, none⟩ = some (.int .i64 (wrap64 (t393))) := (blk_cell BK395.out 0).trans rfl; have hcz107_1 : w104.cell? ⟨gb395, 1, none⟩ = some (u396001) := (blk_cell BK395.out 1).trans rfl; have hcz107_2 : w104.cell? ⟨gb395, 2, none⟩ = some (u396002) := (blk_cell BK395.out 2).trans rfl; have hcz107_3 : w104.cell? ⟨gb395, 3, none⟩ = some (u396003) := (blk_cell BK395.out 3).trans rfl; have hcz107_4 : w104.cell? ⟨gb395, 4, none⟩ = some (.int .i64 x396004_4) := (blk_cell BK395.out 4).trans rfl; have hcz107_5 : w104.cell? ⟨gb395, 5, none⟩ = some (.int .i64 x396005_4) := (blk_cell BK395.out 5).trans rfl; have hcz107_6 : w104.cell? ⟨gb395, 6, none⟩ = some (.int .i64 x396006_4) := (blk_cell BK395.out 6).trans rfl; have hcz107_7 : w104.cell? ⟨gb395, 7, none⟩ = some (.int .i64 x396007_4) := (blk_cell BK395.out 7).trans rfl; have hfz107_0 := blk_frozen BK395.out 0; have hfz107_1 := blk_frozen BK395.out 1; have hfz107_2 := blk_frozen BK395.out 2; have hfz107_3 := blk_frozen BK395.out 3; have hfz107_4 := blk_frozen BK395.out 4; have hfz107_5 := blk_frozen BK395.out 5; have hfz107_6 := blk_frozen BK395.out 6; have hfz107_7 := blk_frozen BK395.out 7; obtain ⟨Ao108, co108, eo108⟩ := Kd.R_slice HO_396001.out; subst eo108; obtain ⟨Ao109, co109, eo109⟩ := Kd.R_slice HO_396002.out; subst eo109; obtain ⟨Ao110, co110, eo110⟩ := Kd.R_slice HO_396003.out; subst eo110) | (go_at_call 17; (with_reducible refine (page_Page_Right.calls kj4 (wrap64 (t393)) _ _ x396001_4 _ _ x396002_4 _ _ x396003_4 x396004_4 x396005_4 x396006_4 x396007_4 true _ ?side1 ?side2 ?side3 ?side4 ?side5 ?side6 A86.out).mono ?_); (case side1 => repeat (first | exact (Kd.R_reads' HO_396001.out).2.2 | (with_reducible refine Kd.C_alloc ?_ _) | (with_reducible refine Kd.C_drewN ?_ _) | (with_reducible refine Kd.C_drew ?_))); (case side2 => exact (Kd.R_reads' HO_396001.out).2.1); (case side3 => repeat (first | exact (Kd.R_reads' HO_396002.out).2.2 | (with_reducible refine Kd.C_alloc ?_ _) | (with_reducible refine Kd.C_drewN ?_ _) | (with_reducible refine Kd.C_drew ?_))); (case side4 => exact (Kd.R_reads' HO_396002.out).2.1); (case side5 => repeat (first | exact (Kd.R_reads' HO_396003.out).2.2 | (with_reducible refine Kd.C_alloc ?_ _) | (with_reducible refine Kd.C_drewN ?_ _) | (with_reducible refine Kd.C_drew ?_))); (case side6 => exact (Kd.R_reads' HO_396003.out).2.1); rintro e w111 ⟨rfl, hb⟩; have n0_ := Aside0.mk (Kd.R_below (by (with_reducible repeat (first | apply Kd.R_alloc | apply Kd.R_drewN | apply Kd.R_drew)); exact HO_396001.out) hb); have n1_ := Aside0.mk (Kd.R_below (by (with_reducible repeat (first | apply Kd.R_alloc | apply Kd.R_drewN | apply Kd.R_drew)); exact HO_396002.out) hb); have n2_ := Aside0.mk (Kd.R_below (by (with_reducible repeat (first | apply Kd.R_alloc | apply Kd.R_drewN | apply Kd.R_drew)); exact HO_396003.out) hb); have n3_ := Aside0.mk (blk_below (g := gb390) (o := .cells #[.int .i64 0, .slice none 0 0, .slice none 0 0, .slice none 0 0, .int .i64 0, .int .i64 0, .int .i64 0, .int .i64 0] 27 (0, 0)) (by (with_reducible repeat (first | refine blk_drewN ?_ _ | refine blk_drew ?_ | refine blk_alloc ?_ _)); exact BK390.out) hb); have n4_ := Aside0.mk (blk_below (g := gb395) (o := .cells #[.int .i64 (wrap64 (t393)), .slice Ao108 x396001_4.length co108, .slice Ao109 x396002_4.length co109, .slice Ao110 x396003_4.length co110, .int .i64 x396004_4, .int .i64 x396005_4, .int .i64 x396006_4, .int .i64 x396007_4] 27 (0, 0)) (by (with_reducible repeat (first | refine blk_drewN ?_ _ | refine blk_drew ?_ | refine blk_alloc ?_ _)); exact BK395.out) hb); have n5_ := Aside0.mk (IsS103.below (by repeat (first | (with_reducible first | exact HI392.out | apply IsS103.alloc | apply IsS103.drewN | apply IsS103.drew | apply IsS103.set_0 | refine IsS103.far ?_ NB392_390.out _ | refine IsS103.far ?_ NB392_395.out _) | exact HI392.out)) hb); have n6_ := Aside0.mk (below_step (by repeat (first | (with_reducible first | exact HB.out | apply below_alloc | apply pw_below_drewN | apply below_drew1 | refine below_set ?_ (IsS103.ge HI392.out) | refine below_set ?_ GE390.out | refine below_set ?_ GE395.out) | exact HB.out)) hb); clear HO_396001; clear HO_396002; clear HO_396003; clear BK390; clear BK395; clear HI392; clear HB; have HO_396001 := n0_; have HO_396002 := n1_; have HO_396003 := n2_; have BK390 := n3_; have BK395 := n4_; have HI392 := n5_; have HB := n6_; clear n0_ n1_ n2_ n3_ n4_ n5_ n6_; (try clear hb); (try clear hb2); (try clear hk); (try clear hi)) | (go_at_call 53; refine calls_of_args (args' := #[.slice A103 (l0.drop ((ji81) : Int).toNat).length (c0 - (ji81).toNat), .func (.func 54) #[] #[]]) (by first | rfl | (simp only [List.length_drop, List.length_take]; done) | (simp only [List.length_drop, List.length_take]; rfl)) ?_; (with_reducible refine (slices_ContainsFunc_byte_byte.calls _ _ (l0.drop ((ji81) : Int).toNat) 54 false _ ?side1 ?side2 A88.out).mono ?_); (case side1 => repeat (first | exact (Kd.C_below HR439.out HB.out) | (with_reducible refine Kd.C_alloc ?_ _) | (with_reducible refine Kd.C_drewN ?_ _) | (with_reducible refine Kd.C_drew ?_))); (case side2 => exact HC439.out); rintro e w' ⟨rfl, ⟨nd, rfl⟩⟩; (try (rw [drewN_self w111]; generalize hq_ : World.drewN w111 _ = w111; have n0_ : Aside0 (Kd.R Kd.string 9 w111 w.heap.size (fun k_ => some k_ ≠ (.slice Ao109 x396002_4.length co109 : Value).ownBlock) (.slice Ao108 x396001_4.length co108) x396001_4) := ⟨by rw [← hq_]; exact (by (with_reducible repeat (first | apply Kd.R_alloc | apply Kd.R_drewN | apply Kd.R_drew)); exact HO_396001.out)⟩; have n1_ : Aside0 (Kd.R Kd.string 9 w111 w.heap.size (fun k_ => some k_ ≠ (.slice Ao108 x396001_4.length co108 : Value).ownBlock) (.slice Ao109 x396002_4.length co109) x396002_4) := ⟨by rw [← hq_]; exact (by (with_reducible repeat (first | apply Kd.R_alloc | apply Kd.R_drewN | apply Kd.R_drew)); exact HO_396002.out)⟩; have n2_ : Aside0 (Kd.R (Kd.int .i64) 3 w111 w.heap.size (fun _ => True) (.slice Ao110 x396003_4.length co110) x396003_4) := ⟨by rw [← hq_]; exact (by (with_reducible repeat (first | apply Kd.R_alloc | apply Kd.R_drewN | apply Kd.R_drew)); exact HO_396003.out)⟩; have n3_ : Aside0 (w111.heap[gb390]? = some (.cells #[.int .i64 0, .slice none 0 0, .slice none 0 0, .slice none 0 0, .int .i64 0, .int .i64 0, .int .i64 0, .int .i64 0] 27 (0, 0))) := ⟨by rw [← hq_]; exact (by (with_reducible repeat (first | refine blk_drewN ?_ _ | refine blk_drew ?_ | refine blk_alloc ?_ _)); exact BK390.out)⟩; have n4_ : Aside0 (w111.heap[gb395]? = some (.cells #[.int .i64 (wrap64 (t393)), .slice Ao108 x396001_4.length co108, .slice Ao109 x396002_4.length co109, .slice Ao110 x396003_4.length co110, .int .i64 x396004_4, .int .i64 x396005_4, .int .i64 x396006_4, .int .i64 x396007_4] 27 (0, 0))) := ⟨by rw [← hq_]; exact (by (with_reducible repeat (first | refine blk_drewN ?_ _ | refine blk_drew ?_ | refine blk_alloc ?_ _)); exact BK395.out)⟩; have n5_ : Aside0 (IsS103 w w111 g392 t441) := ⟨by rw [← hq_]; exact (by repeat (first | (with_reducible first | exact HI392.out | apply IsS103.alloc | apply IsS103.drewN | apply IsS103.drew | apply IsS103.set_0 | refine IsS103.far ?_ NB392_390.out _ | refine IsS103.far ?_ NB392_395.out _) | exact HI392.out))⟩; have n6_ : Aside0 (Below w.heap.size w w111) := ⟨by rw [← hq_]; exact (by repeat (first | (with_reducible first | exact HB.out | apply below_alloc | apply pw_below_drewN | apply below_drew1 | refine below_set ?_ (IsS103.ge HI392.out) | refine below_set ?_ GE390.out | refine below_set ?_ GE395.out) | exact HB.out))⟩; clear HO_396001 HO_396002 HO_396003 BK390 BK395 HI392 HB hq_; have HO_396001 := n0_; have HO_396002 := n1_; have HO_396003 := n2_; have BK390 := n3_; have BK395 := n4_; have HI392 := n5_; have HB := n6_; clear n0_ n1_ n2_ n3_ n4_ n5_ n6_)); have hcz112_0 : w111.cell? ⟨gb395, 0, none⟩ = some (.int .i64 (wrap64 (t393))) := (blk_cell BK395.out 0).trans rfl; have hcz112_1 : w111.cell? ⟨gb395, 1, none⟩ = some (.slice Ao108 x396001_4.length co108) := (blk_cell BK395.out 1).trans rfl; have hcz112_2 : w111.cell? ⟨gb395, 2, none⟩ = some (.slice Ao109 x396002_4.length co109) := (blk_cell BK395.out 2).trans rfl; have hcz112_3 : w111.cell? ⟨gb395, 3, none⟩ = some (.slice Ao110 x396003_4.length co110) := (blk_cell BK395.out 3).trans rfl; have hcz112_4 : w111.cell? ⟨gb395, 4, none⟩ = some (.int .i64 x396004_4) := (blk_cell BK395.out 4).trans rfl; have hcz112_5 : w111.cell? ⟨gb395, 5, none⟩ = some (.int .i64 x396005_4) := (blk_cell BK395.out 5).trans rfl; have hcz112_6 : w111.cell? ⟨gb395, 6, none⟩ = some (.int .i64 x396006_4) := (blk_cell BK395.out 6).trans rfl; have hcz112_7 : w111.cell? ⟨gb395, 7, none⟩ = some (.int .i64 x396007_4) := (blk_cell BK395.out 7).trans rfl; have hfz112_0 := blk_frozen BK395.out 0; have hfz112_1 := blk_frozen BK395.out 1; have hfz112_2 := blk_frozen BK395.out 2; have hfz112_3 := blk_frozen BK395.out 3; have hfz112_4 := blk_frozen BK395.out 4; have hfz112_5 := blk_frozen BK395.out 5; have hfz112_6 := blk_frozen BK395.out 6; have hfz112_7 := blk_frozen BK395.out 7; have hnb113 := NB390_392.out; have hnc113 := NB392_390.out; have hcz114_0 : w111.cell? ⟨gb390, 0, none⟩ = some (.int .i64 0) := (blk_cell BK390.out 0).trans rfl; have hcz114_1 : w111.cell? ⟨gb390, 1, none⟩ = some (.slice none 0 0) := (blk_cell BK390.out 1).trans rfl; have hcz114_2 : w111.cell? ⟨gb390, 2, none⟩ = some (.slice none 0 0) := (blk_cell BK390.out 2).trans rfl; have hcz114_3 : w111.cell? ⟨gb390, 3, none⟩ = some (.slice none 0 0) := (blk_cell BK390.out 3).trans rfl; have hcz114_4 : w111.cell? ⟨gb390, 4, none⟩ = some (.int .i64 0) := (blk_cell BK390.out 4).trans rfl; have hcz114_5 : w111.cell? ⟨gb390, 5, none⟩ = some (.int .i64 0) := (blk_cell BK390.out 5).trans rfl; have hcz114_6 : w111.cell? ⟨gb390, 6, none⟩ = some (.int .i64 0) := (blk_cell BK390.out 6).trans rfl; have hcz114_7 : w111.cell? ⟨gb390, 7, none⟩ = some (.int .i64 0) := (blk_cell BK390.out 7).trans rfl; have hfz114_0 := blk_frozen BK390.out 0; have hfz114_1 := blk_frozen BK390.out 1; have hfz114_2 := blk_frozen BK390.out 2; have hfz114_3 := blk_frozen BK390.out 3; have hfz114_4 := blk_frozen BK390.out 4; have hfz114_5 := blk_frozen BK390.out 5; have hfz114_6 := blk_frozen BK390.out 6; have hfz114_7 := blk_frozen BK390.out 7))
                refine bodyPost_ret (results_ctt rfl _ _ gb390 27 #[.int .i64 (wrap64 (t393)), .slice Ao108 x396001_4.length co108, .slice Ao109 x396002_4.length co109, .slice Ao110 x396003_4.length co110, .int .i64 x396004_4, .int .i64 x396005_4, .int .i64 x396006_4, .int .i64 x396007_4] (0, 0) _ rfl (by (with_reducible repeat (first | refine blk_drewN ?_ _ | refine blk_drew ?_ | refine blk_alloc ?_ _)); refine blk_put (cs := #[.int .i64 (wrap64 (t393)), .slice Ao108 x396001_4.length co108, .slice Ao109 x396002_4.length co109, .slice Ao110 x396003_4.length co110, .int .i64 x396004_4, .int .i64 x396005_4, .int .i64 x396006_4, .int .i64 0]) ?_ 7 _ rfl; (with_reducible repeat (first | refine blk_drewN ?_ _ | refine blk_drew ?_ | refine blk_alloc ?_ _)); refine blk_put (cs := #[.int .i64 (wrap64 (t393)), .slice Ao108 x396001_4.length co108, .slice Ao109 x396002_4.length co109, .slice Ao110 x396003_4.length co110, .int .i64 x396004_4, .int .i64 x396005_4, .int .i64 0, .int .i64 0]) ?_ 6 _ rfl; (with_reducible repeat (first | refine blk_drewN ?_ _ | refine blk_drew ?_ | refine blk_alloc ?_ _)); refine blk_put (cs := #[.int .i64 (wrap64 (t393)), .slice Ao108 x396001_4.length co108, .slice Ao109 x396002_4.length co109, .slice Ao110 x396003_4.length co110, .int .i64 x396004_4, .int .i64 0, .int .i64 0, .int .i64 0]) ?_ 5 _ rfl; (with_reducible repeat (first | refine blk_drewN ?_ _ | refine blk_drew ?_ | refine blk_alloc ?_ _)); refine blk_put (cs := #[.int .i64 (wrap64 (t393)), .slice Ao108 x396001_4.length co108, .slice Ao109 x396002_4.length co109, .slice Ao110 x396003_4.length co110, .int .i64 0, .int .i64 0, .int .i64 0, .int .i64 0]) ?_ 4 _ rfl; (with_reducible repeat (first | refine blk_drewN ?_ _ | refine blk_drew ?_ | refine blk_alloc ?_ _)); refine blk_put (cs := #[.int .i64 (wrap64 (t393)), .slice Ao108 x396001_4.length co108, .slice Ao109 x396002_4.length co109, .slice none 0 0, .int .i64 0, .int .i64 0, .int .i64 0, .int .i64 0]) ?_ 3 _ rfl; (with_reducible repeat (first | refine blk_drewN ?_ _ | refine blk_drew ?_ | refine blk_alloc ?_ _)); refine blk_put (cs := #[.int .i64 (wrap64 (t393)), .slice Ao108 x396001_4.length co108, .slice none 0 0, .slice none 0 0, .int .i64 0, .int .i64 0, .int .i64 0, .int .i64 0]) ?_ 2 _ rfl; (with_reducible repeat (first | refine blk_drewN ?_ _ | refine blk_drew ?_ | refine blk_alloc ?_ _)); refine blk_put (cs := #[.int .i64 (wrap64 (t393)), .slice none 0 0, .slice none 0 0, .slice none 0 0, .int .i64 0, .int .i64 0, .int .i64 0, .int .i64 0]) ?_ 1 _ rfl; (with_reducible repeat (first | refine blk_drewN ?_ _ | refine blk_drew ?_ | refine blk_alloc ?_ _)); refine blk_put (cs := #[.int .i64 0, .slice none 0 0, .slice none 0 0, .slice none 0 0, .int .i64 0, .int .i64 0, .int .i64 0, .int .i64 0]) ?_ 0 _ rfl; (with_reducible repeat (first | refine blk_drewN ?_ _ | refine blk_drew ?_ | refine blk_alloc ?_ _)); exact BK390.out) Try.underlying27 rfl (by kernel_rfl)) rfl ?_
                exact ⟨_, _, _, by first | rfl | (simp [errW_none, errW_some] <;> rfl) | (simp only [← hji81]; first | rfl | (simp [errW_none, errW_some] <;> rfl)) | (simp [*, errW_none, errW_some] <;> rfl), by (with_reducible repeat (first | apply Kd.R_alloc | apply Kd.R_drewN | apply Kd.R_drew)); exact Kd.R_mono (Kd.R_far (p := ⟨gb390, 7, none⟩) (Kd.R_far (p := ⟨gb390, 6, none⟩) (Kd.R_far (p := ⟨gb390, 5, none⟩) (Kd.R_far (p := ⟨gb390, 4, none⟩) (Kd.R_far (p := ⟨gb390, 3, none⟩) (Kd.R_far (p := ⟨gb390, 2, none⟩) (Kd.R_far (p := ⟨gb390, 1, none⟩) (Kd.R_far (p := ⟨gb390, 0, none⟩) (Kd.R_types HO_396001.out BK390.out (by decide)) (fun _ hk => hk.2) (.int .i64 (wrap64 (t393)))) (fun _ hk => hk.2) (.slice Ao108 x396001_4.length co108)) (fun _ hk => hk.2) (.slice Ao109 x396002_4.length co109)) (fun _ hk => hk.2) (.slice Ao110 x396003_4.length co110)) (fun _ hk => hk.2) (.int .i64 x396004_4)) (fun _ hk => hk.2) (.int .i64 x396005_4)) (fun _ hk => hk.2) (.int .i64 x396006_4)) (fun _ hk => hk.2) (.int .i64 x396007_4)) (fun _ hk => hk.1), by (with_reducible repeat (first | apply Kd.R_alloc | apply Kd.R_drewN | apply Kd.R_drew)); exact Kd.R_mono (Kd.R_far (p := ⟨gb390, 7, none⟩) (Kd.R_far (p := ⟨gb390, 6, none⟩) (Kd.R_far (p := ⟨gb390, 5, none⟩) (Kd.R_far (p := ⟨gb390, 4, none⟩) (Kd.R_far (p := ⟨gb390, 3, none⟩) (Kd.R_far (p := ⟨gb390, 2, none⟩) (Kd.R_far (p := ⟨gb390, 1, none⟩) (Kd.R_far (p := ⟨gb390, 0, none⟩) (Kd.R_types HO_396002.out BK390.out (by decide)) (fun _ hk => hk.2) (.int .i64 (wrap64 (t393)))) (fun _ hk => hk.2) (.slice Ao108 x396001_4.length co108)) (fun _ hk => hk.2) (.slice Ao109 x396002_4.length co109)) (fun _ hk => hk.2) (.slice Ao110 x396003_4.length co110)) (fun _ hk => hk.2) (.int .i64 x396004_4)) (fun _ hk => hk.2) (.int .i64 x396005_4)) (fun _ hk => hk.2) (.int .i64 x396006_4)) (fun _ hk => hk.2) (.int .i64 x396007_4)) (fun _ hk => hk.1), by (with_reducible repeat (first | apply Kd.R_alloc | apply Kd.R_drewN | apply Kd.R_drew)); exact Kd.R_mono (Kd.R_far (p := ⟨gb390, 7, none⟩) (Kd.R_far (p := ⟨gb390, 6, none⟩) (Kd.R_far (p := ⟨gb390, 5, none⟩) (Kd.R_far (p := ⟨gb390, 4, none⟩) (Kd.R_far (p := ⟨gb390, 3, none⟩) (Kd.R_far (p := ⟨gb390, 2, none⟩) (Kd.R_far (p := ⟨gb390, 1, none⟩) (Kd.R_far (p := ⟨gb390, 0, none⟩) (Kd.R_types HO_396003.out BK390.out (by decide)) (fun _ hk => hk.2) (.int .i64 (wrap64 (t393)))) (fun _ hk => hk.2) (.slice Ao108 x396001_4.length co108)) (fun _ hk => hk.2) (.slice Ao109 x396002_4.length co109)) (fun _ hk => hk.2) (.slice Ao110 x396003_4.length co110)) (fun _ hk => hk.2) (.int .i64 x396004_4)) (fun _ hk => hk.2) (.int .i64 x396005_4)) (fun _ hk => hk.2) (.int .i64 x396006_4)) (fun _ hk => hk.2) (.int .i64 x396007_4)) (fun _ hk => trivial), by repeat (first | (with_reducible first | exact HB.out | apply below_alloc | apply pw_below_drewN | apply below_drew1 | refine below_set ?_ (IsS103.ge HI392.out) | refine below_set ?_ GE390.out | refine below_set ?_ GE395.out) | exact HB.out)⟩
            · replace c87 := Bool.eq_false_iff.mpr c87
              subst c87
              have H1 : (some (0, ([] : List ByteArray), ([] : List ByteArray), ([] : List Int), 0, 0, 0, 0, 0, 11)) = some (r1, r2, r3, r4, r5, r6, r7, r8, r9, r10) := by rw [if_neg (show ¬ (false = true) by decide)] at H; exact H
              clear H
              have H := H1
              clear H1
              simp only [Option.some.injEq, Prod.mk.injEq] at H
              obtain ⟨rfl, rfl, rfl, rfl, rfl, rfl, rfl, rfl, rfl, rfl⟩ := H
              go_wp2_with (first | ((with_reducible refine gate_callee (f := 51) rfl ?_); refine goesL_ (some 94) rfl rfl Try.func51 (by kernel_rfl) rfl #[.pointer (some ⟨g392, 0, none⟩)] rfl (by (try simp only [List.map_toArray, List.map_cons, List.map_nil]); first | done | rfl | (simp only [List.length_drop, List.length_take]; rfl)) ?_; (with_reducible refine (num_Reader_Left.calls g392 x393000_4 t437 t438 w _ ?side1 ?side2 A80.out).mono ?_); (case side1 => repeat (first | (with_reducible first | exact HI392.out | apply IsS103.alloc | apply IsS103.drewN | apply IsS103.drew | apply IsS103.set_0 | refine IsS103.far ?_ NB392_390.out _ | refine IsS103.far ?_ NB392_395.out _) | exact HI392.out)); (case side2 => repeat (first | (with_reducible first | exact HB.out | apply below_alloc | apply pw_below_drewN | apply below_drew1 | refine below_set ?_ (IsS103.ge HI392.out) | refine below_set ?_ GE390.out | refine below_set ?_ GE395.out) | exact HB.out)); rintro e w115 ⟨rfl, hi, hb, hk⟩; refine ⟨_, rfl, ?_⟩; have n0_ := Aside0.mk (Kd.R_mono (Kd.R_keep (IsS103.apart (show IsS103 w _ g392 x393000_4 from by repeat (first | (with_reducible first | exact HI392.out | apply IsS103.alloc | apply IsS103.drewN | apply IsS103.drew | apply IsS103.set_0 | refine IsS103.far ?_ NB392_390.out _ | refine IsS103.far ?_ NB392_395.out _) | exact HI392.out)) (by (with_reducible repeat (first | apply Kd.R_alloc | apply Kd.R_drewN | apply Kd.R_drew)); exact HO_396001.out) (by decide)) hk (fun _ h => h.2)) (fun _ h => h.1)); have n1_ := Aside0.mk (Kd.R_mono (Kd.R_keep (IsS103.apart (show IsS103 w _ g392 x393000_4 from by repeat (first | (with_reducible first | exact HI392.out | apply IsS103.alloc | apply IsS103.drewN | apply IsS103.drew | apply IsS103.set_0 | refine IsS103.far ?_ NB392_390.out _ | refine IsS103.far ?_ NB392_395.out _) | exact HI392.out)) (by (with_reducible repeat (first | apply Kd.R_alloc | apply Kd.R_drewN | apply Kd.R_drew)); exact HO_396002.out) (by decide)) hk (fun _ h => h.2)) (fun _ h => h.1)); have n2_ := Aside0.mk (Kd.R_mono (Kd.R_keep (IsS103.apart (show IsS103 w _ g392 x393000_4 from by repeat (first | (with_reducible first | exact HI392.out | apply IsS103.alloc | apply IsS103.drewN | apply IsS103.drew | apply IsS103.set_0 | refine IsS103.far ?_ NB392_390.out _ | refine IsS103.far ?_ NB392_395.out _) | exact HI392.out)) (by (with_reducible repeat (first | apply Kd.R_alloc | apply Kd.R_drewN | apply Kd.R_drew)); exact HO_396003.out) (by decide)) hk (fun _ h => h.2)) (fun _ h => h.1)); have n3_ := Aside0.mk (KeepBut.blk hk (g' := gb390) (o := .cells #[.int .i64 0, .slice none 0 0, .slice none 0 0, .slice none 0 0, .int .i64 0, .int .i64 0, .int .i64 0, .int .i64 0] 27 (0, 0)) (by (with_reducible repeat (first | refine blk_drewN ?_ _ | refine blk_drew ?_ | refine blk_alloc ?_ _)); exact BK390.out) NB390_392.out (by simp)); have n4_ := Aside0.mk (KeepBut.blk hk (g' := gb395) (o := .cells #[.int .i64 (wrap64 (t393)), u396001, u396002, u396003, .int .i64 x396004_4, .int .i64 x396005_4, .int .i64 x396006_4, .int .i64 x396007_4] 27 (0, 0)) (by (with_reducible repeat (first | refine blk_drewN ?_ _ | refine blk_drew ?_ | refine blk_alloc ?_ _)); exact BK395.out) NB395_392.out (by simp)); have n5_ := Aside0.mk (hb); have n6_ := Aside0.mk (hi); clear HO_396001; clear HO_396002; clear HO_396003; clear BK390; clear BK395; clear HB; clear HI392; have HO_396001 := n0_; have HO_396002 := n1_; have HO_396003 := n2_; have BK390 := n3_; have BK395 := n4_; have HB := n5_; have HI392 := n6_; clear n0_ n1_ n2_ n3_ n4_ n5_ n6_; (try clear hb); (try clear hb2); (try clear hk); (try clear hi); obtain ⟨i0116, hi0116, _, hsz116, _⟩ := info_parts info5; obtain ⟨A116, hcut116, hA116, hC116⟩ := print_drop_of (P := Try.prog) (Value.int .u8) 0 28 5 .i64 Try.underlying28 hi0116 hsz116 A0 c0 l0 (ji81) (of_decide_eq_true (by first | (with_reducible assumption) | assumption)) (of_decide_eq_true (by first | (with_reducible assumption) | assumption)) HC0.out; have HR439 := Aside0.mk (Kd.C_of_reads (h1 := fun _ => rfl) (hA116 _ (Kd.reads_of_C HR0.out))); have HC439 := Aside0.mk hC116; clear hA116 hC116 hi0116 hsz116) | ((with_reducible refine gate_callee (f := 52) rfl ?_); refine goesL_ (some 98) rfl rfl Try.func52 (by kernel_rfl) rfl #[.pointer (some ⟨g392, 0, none⟩)] rfl (by (try simp only [List.map_toArray, List.map_cons, List.map_nil]); first | done | rfl | (simp only [List.length_drop, List.length_take]; rfl)) ?_; (with_reducible refine (num_Reader_Err.calls g392 t438 t440 t441 w _ ?side1 ?side2 A84.out).mono ?_); (case side1 => repeat (first | (with_reducible first | exact HI392.out | apply IsS103.alloc | apply IsS103.drewN | apply IsS103.drew | apply IsS103.set_0 | refine IsS103.far ?_ NB392_390.out _ | refine IsS103.far ?_ NB392_395.out _) | exact HI392.out)); (case side2 => repeat (first | (with_reducible first | exact HB.out | apply below_alloc | apply pw_below_drewN | apply below_drew1 | refine below_set ?_ (IsS103.ge HI392.out) | refine below_set ?_ GE390.out | refine below_set ?_ GE395.out) | exact HB.out)); rintro e w117 ⟨rfl, hi, hb, hk⟩; refine ⟨_, rfl, ?_⟩; have n0_ := Aside0.mk (Kd.R_mono (Kd.R_keep (IsS103.apart (show IsS103 w _ g392 t438 from by repeat (first | (with_reducible first | exact HI392.out | apply IsS103.alloc | apply IsS103.drewN | apply IsS103.drew | apply IsS103.set_0 | refine IsS103.far ?_ NB392_390.out _ | refine IsS103.far ?_ NB392_395.out _) | exact HI392.out)) (by (with_reducible repeat (first | apply Kd.R_alloc | apply Kd.R_drewN | apply Kd.R_drew)); exact HO_396001.out) (by decide)) hk (fun _ h => h.2)) (fun _ h => h.1)); have n1_ := Aside0.mk (Kd.R_mono (Kd.R_keep (IsS103.apart (show IsS103 w _ g392 t438 from by repeat (first | (with_reducible first | exact HI392.out | apply IsS103.alloc | apply IsS103.drewN | apply IsS103.drew | apply IsS103.set_0 | refine IsS103.far ?_ NB392_390.out _ | refine IsS103.far ?_ NB392_395.out _) | exact HI392.out)) (by (with_reducible repeat (first | apply Kd.R_alloc | apply Kd.R_drewN | apply Kd.R_drew)); exact HO_396002.out) (by decide)) hk (fun _ h => h.2)) (fun _ h => h.1)); have n2_ := Aside0.mk (Kd.R_mono (Kd.R_keep (IsS103.apart (show IsS103 w _ g392 t438 from by repeat (first | (with_reducible first | exact HI392.out | apply IsS103.alloc | apply IsS103.drewN | apply IsS103.drew | apply IsS103.set_0 | refine IsS103.far ?_ NB392_390.out _ | refine IsS103.far ?_ NB392_395.out _) | exact HI392.out)) (by (with_reducible repeat (first | apply Kd.R_alloc | apply Kd.R_drewN | apply Kd.R_drew)); exact HO_396003.out) (by decide)) hk (fun _ h => h.2)) (fun _ h => h.1)); have n3_ := Aside0.mk (KeepBut.blk hk (g' := gb390) (o := .cells #[.int .i64 0, .slice none 0 0, .slice none 0 0, .slice none 0 0, .int .i64 0, .int .i64 0, .int .i64 0, .int .i64 0] 27 (0, 0)) (by (with_reducible repeat (first | refine blk_drewN ?_ _ | refine blk_drew ?_ | refine blk_alloc ?_ _)); exact BK390.out) NB390_392.out (by simp)); have n4_ := Aside0.mk (KeepBut.blk hk (g' := gb395) (o := .cells #[.int .i64 (wrap64 (t393)), u396001, u396002, u396003, .int .i64 x396004_4, .int .i64 x396005_4, .int .i64 x396006_4, .int .i64 x396007_4] 27 (0, 0)) (by (with_reducible repeat (first | refine blk_drewN ?_ _ | refine blk_drew ?_ | refine blk_alloc ?_ _)); exact BK395.out) NB395_392.out (by simp)); have n5_ := Aside0.mk (hb); have n6_ := Aside0.mk (hi); clear HO_396001; clear HO_396002; clear HO_396003; clear BK390; clear BK395; clear HB; clear HI392; have HO_396001 := n0_; have HO_396002 := n1_; have HO_396003 := n2_; have BK390 := n3_; have BK395 := n4_; have HB := n5_; have HI392 := n6_; clear n0_ n1_ n2_ n3_ n4_ n5_ n6_; (try clear hb); (try clear hb2); (try clear hk); (try clear hi); have hnb118 := NB395_390.out; have hnc118 := NB390_395.out; have hnb119 := NB395_392.out; have hnc119 := NB392_395.out; have hcz120_0 : w117.cell? ⟨gb395, 0, none⟩ = some (.int .i64 (wrap64 (t393))) := (blk_cell BK395.out 0).trans rfl; have hcz120_1 : w117.cell? ⟨gb395, 1, none⟩ = some (u396001) := (blk_cell BK395.out 1).trans rfl; have hcz120_2 : w117.cell? ⟨gb395, 2, none⟩ = some (u396002) := (blk_cell BK395.out 2).trans rfl; have hcz120_3 : w117.cell? ⟨gb395, 3, none⟩ = some (u396003) := (blk_cell BK395.out 3).trans rfl; have hcz120_4 : w117.cell? ⟨gb395, 4, none⟩ = some (.int .i64 x396004_4) := (blk_cell BK395.out 4).trans rfl; have hcz120_5 : w117.cell? ⟨gb395, 5, none⟩ = some (.int .i64 x396005_4) := (blk_cell BK395.out 5).trans rfl; have hcz120_6 : w117.cell? ⟨gb395, 6, none⟩ = some (.int .i64 x396006_4) := (blk_cell BK395.out 6).trans rfl; have hcz120_7 : w117.cell? ⟨gb395, 7, none⟩ = some (.int .i64 x396007_4) := (blk_cell BK395.out 7).trans rfl; have hfz120_0 := blk_frozen BK395.out 0; have hfz120_1 := blk_frozen BK395.out 1; have hfz120_2 := blk_frozen BK395.out 2; have hfz120_3 := blk_frozen BK395.out 3; have hfz120_4 := blk_frozen BK395.out 4; have hfz120_5 := blk_frozen BK395.out 5; have hfz120_6 := blk_frozen BK395.out 6; have hfz120_7 := blk_frozen BK395.out 7; obtain ⟨Ao121, co121, eo121⟩ := Kd.R_slice HO_396001.out; subst eo121; obtain ⟨Ao122, co122, eo122⟩ := Kd.R_slice HO_396002.out; subst eo122; obtain ⟨Ao123, co123, eo123⟩ := Kd.R_slice HO_396003.out; subst eo123) | (go_at_call 17; (with_reducible refine (page_Page_Right.calls kj4 (wrap64 (t393)) _ _ x396001_4 _ _ x396002_4 _ _ x396003_4 x396004_4 x396005_4 x396006_4 x396007_4 false _ ?side1 ?side2 ?side3 ?side4 ?side5 ?side6 A86.out).mono ?_); (case side1 => repeat (first | exact (Kd.R_reads' HO_396001.out).2.2 | (with_reducible refine Kd.C_alloc ?_ _) | (with_reducible refine Kd.C_drewN ?_ _) | (with_reducible refine Kd.C_drew ?_))); (case side2 => exact (Kd.R_reads' HO_396001.out).2.1); (case side3 => repeat (first | exact (Kd.R_reads' HO_396002.out).2.2 | (with_reducible refine Kd.C_alloc ?_ _) | (with_reducible refine Kd.C_drewN ?_ _) | (with_reducible refine Kd.C_drew ?_))); (case side4 => exact (Kd.R_reads' HO_396002.out).2.1); (case side5 => repeat (first | exact (Kd.R_reads' HO_396003.out).2.2 | (with_reducible refine Kd.C_alloc ?_ _) | (with_reducible refine Kd.C_drewN ?_ _) | (with_reducible refine Kd.C_drew ?_))); (case side6 => exact (Kd.R_reads' HO_396003.out).2.1); rintro e w124 ⟨rfl, hb⟩; have n0_ := Aside0.mk (Kd.R_below (by (with_reducible repeat (first | apply Kd.R_alloc | apply Kd.R_drewN | apply Kd.R_drew)); exact HO_396001.out) hb); have n1_ := Aside0.mk (Kd.R_below (by (with_reducible repeat (first | apply Kd.R_alloc | apply Kd.R_drewN | apply Kd.R_drew)); exact HO_396002.out) hb); have n2_ := Aside0.mk (Kd.R_below (by (with_reducible repeat (first | apply Kd.R_alloc | apply Kd.R_drewN | apply Kd.R_drew)); exact HO_396003.out) hb); have n3_ := Aside0.mk (blk_below (g := gb390) (o := .cells #[.int .i64 0, .slice none 0 0, .slice none 0 0, .slice none 0 0, .int .i64 0, .int .i64 0, .int .i64 0, .int .i64 0] 27 (0, 0)) (by (with_reducible repeat (first | refine blk_drewN ?_ _ | refine blk_drew ?_ | refine blk_alloc ?_ _)); exact BK390.out) hb); have n4_ := Aside0.mk (blk_below (g := gb395) (o := .cells #[.int .i64 (wrap64 (t393)), .slice Ao121 x396001_4.length co121, .slice Ao122 x396002_4.length co122, .slice Ao123 x396003_4.length co123, .int .i64 x396004_4, .int .i64 x396005_4, .int .i64 x396006_4, .int .i64 x396007_4] 27 (0, 0)) (by (with_reducible repeat (first | refine blk_drewN ?_ _ | refine blk_drew ?_ | refine blk_alloc ?_ _)); exact BK395.out) hb); have n5_ := Aside0.mk (IsS103.below (by repeat (first | (with_reducible first | exact HI392.out | apply IsS103.alloc | apply IsS103.drewN | apply IsS103.drew | apply IsS103.set_0 | refine IsS103.far ?_ NB392_390.out _ | refine IsS103.far ?_ NB392_395.out _) | exact HI392.out)) hb); have n6_ := Aside0.mk (below_step (by repeat (first | (with_reducible first | exact HB.out | apply below_alloc | apply pw_below_drewN | apply below_drew1 | refine below_set ?_ (IsS103.ge HI392.out) | refine below_set ?_ GE390.out | refine below_set ?_ GE395.out) | exact HB.out)) hb); clear HO_396001; clear HO_396002; clear HO_396003; clear BK390; clear BK395; clear HI392; clear HB; have HO_396001 := n0_; have HO_396002 := n1_; have HO_396003 := n2_; have BK390 := n3_; have BK395 := n4_; have HI392 := n5_; have HB := n6_; clear n0_ n1_ n2_ n3_ n4_ n5_ n6_; (try clear hb); (try clear hb2); (try clear hk); (try clear hi); have hnb125 := NB390_392.out; have hnc125 := NB392_390.out; have hcz126_0 : w124.cell? ⟨gb390, 0, none⟩ = some (.int .i64 0) := (blk_cell BK390.out 0).trans rfl; have hcz126_1 : w124.cell? ⟨gb390, 1, none⟩ = some (.slice none 0 0) := (blk_cell BK390.out 1).trans rfl; have hcz126_2 : w124.cell? ⟨gb390, 2, none⟩ = some (.slice none 0 0) := (blk_cell BK390.out 2).trans rfl; have hcz126_3 : w124.cell? ⟨gb390, 3, none⟩ = some (.slice none 0 0) := (blk_cell BK390.out 3).trans rfl; have hcz126_4 : w124.cell? ⟨gb390, 4, none⟩ = some (.int .i64 0) := (blk_cell BK390.out 4).trans rfl; have hcz126_5 : w124.cell? ⟨gb390, 5, none⟩ = some (.int .i64 0) := (blk_cell BK390.out 5).trans rfl; have hcz126_6 : w124.cell? ⟨gb390, 6, none⟩ = some (.int .i64 0) := (blk_cell BK390.out 6).trans rfl; have hcz126_7 : w124.cell? ⟨gb390, 7, none⟩ = some (.int .i64 0) := (blk_cell BK390.out 7).trans rfl; have hfz126_0 := blk_frozen BK390.out 0; have hfz126_1 := blk_frozen BK390.out 1; have hfz126_2 := blk_frozen BK390.out 2; have hfz126_3 := blk_frozen BK390.out 3; have hfz126_4 := blk_frozen BK390.out 4; have hfz126_5 := blk_frozen BK390.out 5; have hfz126_6 := blk_frozen BK390.out 6; have hfz126_7 := blk_frozen BK390.out 7))
              refine bodyPost_ret (results_ctt rfl _ _ gb390 27 #[.int .i64 0, .slice none 0 0, .slice none 0 0, .slice none 0 0, .int .i64 0, .int .i64 0, .int .i64 0, .int .i64 0] (0, 0) _ rfl (by (with_reducible repeat (first | refine blk_drewN ?_ _ | refine blk_drew ?_ | refine blk_alloc ?_ _)); refine blk_put (cs := #[.int .i64 0, .slice none 0 0, .slice none 0 0, .slice none 0 0, .int .i64 0, .int .i64 0, .int .i64 0, .int .i64 0]) ?_ 7 _ rfl; (with_reducible repeat (first | refine blk_drewN ?_ _ | refine blk_drew ?_ | refine blk_alloc ?_ _)); refine blk_put (cs := #[.int .i64 0, .slice none 0 0, .slice none 0 0, .slice none 0 0, .int .i64 0, .int .i64 0, .int .i64 0, .int .i64 0]) ?_ 6 _ rfl; (with_reducible repeat (first | refine blk_drewN ?_ _ | refine blk_drew ?_ | refine blk_alloc ?_ _)); refine blk_put (cs := #[.int .i64 0, .slice none 0 0, .slice none 0 0, .slice none 0 0, .int .i64 0, .int .i64 0, .int .i64 0, .int .i64 0]) ?_ 5 _ rfl; (with_reducible repeat (first | refine blk_drewN ?_ _ | refine blk_drew ?_ | refine blk_alloc ?_ _)); refine blk_put (cs := #[.int .i64 0, .slice none 0 0, .slice none 0 0, .slice none 0 0, .int .i64 0, .int .i64 0, .int .i64 0, .int .i64 0]) ?_ 4 _ rfl; (with_reducible repeat (first | refine blk_drewN ?_ _ | refine blk_drew ?_ | refine blk_alloc ?_ _)); refine blk_put (cs := #[.int .i64 0, .slice none 0 0, .slice none 0 0, .slice none 0 0, .int .i64 0, .int .i64 0, .int .i64 0, .int .i64 0]) ?_ 3 _ rfl; (with_reducible repeat (first | refine blk_drewN ?_ _ | refine blk_drew ?_ | refine blk_alloc ?_ _)); refine blk_put (cs := #[.int .i64 0, .slice none 0 0, .slice none 0 0, .slice none 0 0, .int .i64 0, .int .i64 0, .int .i64 0, .int .i64 0]) ?_ 2 _ rfl; (with_reducible repeat (first | refine blk_drewN ?_ _ | refine blk_drew ?_ | refine blk_alloc ?_ _)); refine blk_put (cs := #[.int .i64 0, .slice none 0 0, .slice none 0 0, .slice none 0 0, .int .i64 0, .int .i64 0, .int .i64 0, .int .i64 0]) ?_ 1 _ rfl; (with_reducible repeat (first | refine blk_drewN ?_ _ | refine blk_drew ?_ | refine blk_alloc ?_ _)); refine blk_put (cs := #[.int .i64 0, .slice none 0 0, .slice none 0 0, .slice none 0 0, .int .i64 0, .int .i64 0, .int .i64 0, .int .i64 0]) ?_ 0 _ rfl; (with_reducible repeat (first | refine blk_drewN ?_ _ | refine blk_drew ?_ | refine blk_alloc ?_ _)); exact BK390.out) Try.underlying27 rfl (by kernel_rfl)) rfl ?_
              exact ⟨_, _, _, by first | rfl | (simp [errW_none, errW_some] <;> rfl) | (simp only [← hji81]; first | rfl | (simp [errW_none, errW_some] <;> rfl)) | (simp [*, errW_none, errW_some] <;> rfl), by first | exact Kd.R_nil _ _ _ _ _ | exact Kd.N_nil _ _ _ _ _ | exact Kd.V_nil _ _ _ _ _ | exact Kd.Q_nil _ _ _ _ _ | exact Kd.S_nil _ _ _ _ _, by first | exact Kd.R_nil _ _ _ _ _ | exact Kd.N_nil _ _ _ _ _ | exact Kd.V_nil _ _ _ _ _ | exact Kd.Q_nil _ _ _ _ _ | exact Kd.S_nil _ _ _ _ _, by first | exact Kd.R_nil _ _ _ _ _ | exact Kd.N_nil _ _ _ _ _ | exact Kd.V_nil _ _ _ _ _ | exact Kd.Q_nil _ _ _ _ _ | exact Kd.S_nil _ _ _ _ _, by repeat (first | (with_reducible first | exact HB.out | apply below_alloc | apply pw_below_drewN | apply below_drew1 | refine below_set ?_ (IsS103.ge HI392.out) | refine below_set ?_ GE390.out | refine below_set ?_ GE395.out) | exact HB.out)⟩
          · rw [if_neg c85] at H
            have c85b0 : (t440 == 0) = false := beq_eq_false_iff_ne.mpr c85
            have c85b1 : (t440 != 0) = true := bne_iff_ne.mpr c85
            simp only [Option.some.injEq, Prod.mk.injEq] at H
            obtain ⟨rfl, rfl, rfl, rfl, rfl, rfl, rfl, rfl, rfl, rfl⟩ := H
            go_wp2_with (first | ((with_reducible refine gate_callee (f := 51) rfl ?_); refine goesL_ (some 94) rfl rfl Try.func51 (by kernel_rfl) rfl #[.pointer (some ⟨g392, 0, none⟩)] rfl (by (try simp only [List.map_toArray, List.map_cons, List.map_nil]); first | done | rfl | (simp only [List.length_drop, List.length_take]; rfl)) ?_; (with_reducible refine (num_Reader_Left.calls g392 x393000_4 t437 t438 w _ ?side1 ?side2 A80.out).mono ?_); (case side1 => repeat (first | (with_reducible first | exact HI392.out | apply IsS103.alloc | apply IsS103.drewN | apply IsS103.drew | apply IsS103.set_0 | refine IsS103.far ?_ NB392_390.out _ | refine IsS103.far ?_ NB392_395.out _) | exact HI392.out)); (case side2 => repeat (first | (with_reducible first | exact HB.out | apply below_alloc | apply pw_below_drewN | apply below_drew1 | refine below_set ?_ (IsS103.ge HI392.out) | refine below_set ?_ GE390.out | refine below_set ?_ GE395.out) | exact HB.out)); rintro e w127 ⟨rfl, hi, hb, hk⟩; refine ⟨_, rfl, ?_⟩; have n0_ := Aside0.mk (Kd.R_mono (Kd.R_keep (IsS103.apart (show IsS103 w _ g392 x393000_4 from by repeat (first | (with_reducible first | exact HI392.out | apply IsS103.alloc | apply IsS103.drewN | apply IsS103.drew | apply IsS103.set_0 | refine IsS103.far ?_ NB392_390.out _ | refine IsS103.far ?_ NB392_395.out _) | exact HI392.out)) (by (with_reducible repeat (first | apply Kd.R_alloc | apply Kd.R_drewN | apply Kd.R_drew)); exact HO_396001.out) (by decide)) hk (fun _ h => h.2)) (fun _ h => h.1)); have n1_ := Aside0.mk (Kd.R_mono (Kd.R_keep (IsS103.apart (show IsS103 w _ g392 x393000_4 from by repeat (first | (with_reducible first | exact HI392.out | apply IsS103.alloc | apply IsS103.drewN | apply IsS103.drew | apply IsS103.set_0 | refine IsS103.far ?_ NB392_390.out _ | refine IsS103.far ?_ NB392_395.out _) | exact HI392.out)) (by (with_reducible repeat (first | apply Kd.R_alloc | apply Kd.R_drewN | apply Kd.R_drew)); exact HO_396002.out) (by decide)) hk (fun _ h => h.2)) (fun _ h => h.1)); have n2_ := Aside0.mk (Kd.R_mono (Kd.R_keep (IsS103.apart (show IsS103 w _ g392 x393000_4 from by repeat (first | (with_reducible first | exact HI392.out | apply IsS103.alloc | apply IsS103.drewN | apply IsS103.drew | apply IsS103.set_0 | refine IsS103.far ?_ NB392_390.out _ | refine IsS103.far ?_ NB392_395.out _) | exact HI392.out)) (by (with_reducible repeat (first | apply Kd.R_alloc | apply Kd.R_drewN | apply Kd.R_drew)); exact HO_396003.out) (by decide)) hk (fun _ h => h.2)) (fun _ h => h.1)); have n3_ := Aside0.mk (KeepBut.blk hk (g' := gb390) (o := .cells #[.int .i64 0, .slice none 0 0, .slice none 0 0, .slice none 0 0, .int .i64 0, .int .i64 0, .int .i64 0, .int .i64 0] 27 (0, 0)) (by (with_reducible repeat (first | refine blk_drewN ?_ _ | refine blk_drew ?_ | refine blk_alloc ?_ _)); exact BK390.out) NB390_392.out (by simp)); have n4_ := Aside0.mk (KeepBut.blk hk (g' := gb395) (o := .cells #[.int .i64 (wrap64 (t393)), u396001, u396002, u396003, .int .i64 x396004_4, .int .i64 x396005_4, .int .i64 x396006_4, .int .i64 x396007_4] 27 (0, 0)) (by (with_reducible repeat (first | refine blk_drewN ?_ _ | refine blk_drew ?_ | refine blk_alloc ?_ _)); exact BK395.out) NB395_392.out (by simp)); have n5_ := Aside0.mk (hb); have n6_ := Aside0.mk (hi); clear HO_396001; clear HO_396002; clear HO_396003; clear BK390; clear BK395; clear HB; clear HI392; have HO_396001 := n0_; have HO_396002 := n1_; have HO_396003 := n2_; have BK390 := n3_; have BK395 := n4_; have HB := n5_; have HI392 := n6_; clear n0_ n1_ n2_ n3_ n4_ n5_ n6_; (try clear hb); (try clear hb2); (try clear hk); (try clear hi); obtain ⟨i0128, hi0128, _, hsz128, _⟩ := info_parts info5; obtain ⟨A128, hcut128, hA128, hC128⟩ := print_drop_of (P := Try.prog) (Value.int .u8) 0 28 5 .i64 Try.underlying28 hi0128 hsz128 A0 c0 l0 (ji81) (of_decide_eq_true (by first | (with_reducible assumption) | assumption)) (of_decide_eq_true (by first | (with_reducible assumption) | assumption)) HC0.out; have HR439 := Aside0.mk (Kd.C_of_reads (h1 := fun _ => rfl) (hA128 _ (Kd.reads_of_C HR0.out))); have HC439 := Aside0.mk hC128; clear hA128 hC128 hi0128 hsz128) | ((with_reducible refine gate_callee (f := 52) rfl ?_); refine goesL_ (some 98) rfl rfl Try.func52 (by kernel_rfl) rfl #[.pointer (some ⟨g392, 0, none⟩)] rfl (by (try simp only [List.map_toArray, List.map_cons, List.map_nil]); first | done | rfl | (simp only [List.length_drop, List.length_take]; rfl)) ?_; (with_reducible refine (num_Reader_Err.calls g392 t438 t440 t441 w _ ?side1 ?side2 A84.out).mono ?_); (case side1 => repeat (first | (with_reducible first | exact HI392.out | apply IsS103.alloc | apply IsS103.drewN | apply IsS103.drew | apply IsS103.set_0 | refine IsS103.far ?_ NB392_390.out _ | refine IsS103.far ?_ NB392_395.out _) | exact HI392.out)); (case side2 => repeat (first | (with_reducible first | exact HB.out | apply below_alloc | apply pw_below_drewN | apply below_drew1 | refine below_set ?_ (IsS103.ge HI392.out) | refine below_set ?_ GE390.out | refine below_set ?_ GE395.out) | exact HB.out)); rintro e w129 ⟨rfl, hi, hb, hk⟩; refine ⟨_, rfl, ?_⟩; have n0_ := Aside0.mk (Kd.R_mono (Kd.R_keep (IsS103.apart (show IsS103 w _ g392 t438 from by repeat (first | (with_reducible first | exact HI392.out | apply IsS103.alloc | apply IsS103.drewN | apply IsS103.drew | apply IsS103.set_0 | refine IsS103.far ?_ NB392_390.out _ | refine IsS103.far ?_ NB392_395.out _) | exact HI392.out)) (by (with_reducible repeat (first | apply Kd.R_alloc | apply Kd.R_drewN | apply Kd.R_drew)); exact HO_396001.out) (by decide)) hk (fun _ h => h.2)) (fun _ h => h.1)); have n1_ := Aside0.mk (Kd.R_mono (Kd.R_keep (IsS103.apart (show IsS103 w _ g392 t438 from by repeat (first | (with_reducible first | exact HI392.out | apply IsS103.alloc | apply IsS103.drewN | apply IsS103.drew | apply IsS103.set_0 | refine IsS103.far ?_ NB392_390.out _ | refine IsS103.far ?_ NB392_395.out _) | exact HI392.out)) (by (with_reducible repeat (first | apply Kd.R_alloc | apply Kd.R_drewN | apply Kd.R_drew)); exact HO_396002.out) (by decide)) hk (fun _ h => h.2)) (fun _ h => h.1)); have n2_ := Aside0.mk (Kd.R_mono (Kd.R_keep (IsS103.apart (show IsS103 w _ g392 t438 from by repeat (first | (with_reducible first | exact HI392.out | apply IsS103.alloc | apply IsS103.drewN | apply IsS103.drew | apply IsS103.set_0 | refine IsS103.far ?_ NB392_390.out _ | refine IsS103.far ?_ NB392_395.out _) | exact HI392.out)) (by (with_reducible repeat (first | apply Kd.R_alloc | apply Kd.R_drewN | apply Kd.R_drew)); exact HO_396003.out) (by decide)) hk (fun _ h => h.2)) (fun _ h => h.1)); have n3_ := Aside0.mk (KeepBut.blk hk (g' := gb390) (o := .cells #[.int .i64 0, .slice none 0 0, .slice none 0 0, .slice none 0 0, .int .i64 0, .int .i64 0, .int .i64 0, .int .i64 0] 27 (0, 0)) (by (with_reducible repeat (first | refine blk_drewN ?_ _ | refine blk_drew ?_ | refine blk_alloc ?_ _)); exact BK390.out) NB390_392.out (by simp)); have n4_ := Aside0.mk (KeepBut.blk hk (g' := gb395) (o := .cells #[.int .i64 (wrap64 (t393)), u396001, u396002, u396003, .int .i64 x396004_4, .int .i64 x396005_4, .int .i64 x396006_4, .int .i64 x396007_4] 27 (0, 0)) (by (with_reducible repeat (first | refine blk_drewN ?_ _ | refine blk_drew ?_ | refine blk_alloc ?_ _)); exact BK395.out) NB395_392.out (by simp)); have n5_ := Aside0.mk (hb); have n6_ := Aside0.mk (hi); clear HO_396001; clear HO_396002; clear HO_396003; clear BK390; clear BK395; clear HB; clear HI392; have HO_396001 := n0_; have HO_396002 := n1_; have HO_396003 := n2_; have BK390 := n3_; have BK395 := n4_; have HB := n5_; have HI392 := n6_; clear n0_ n1_ n2_ n3_ n4_ n5_ n6_; (try clear hb); (try clear hb2); (try clear hk); (try clear hi); have hnb130 := NB390_395.out; have hnc130 := NB395_390.out; have hnb131 := NB390_392.out; have hnc131 := NB392_390.out; have hcz132_0 : w129.cell? ⟨gb390, 0, none⟩ = some (.int .i64 0) := (blk_cell BK390.out 0).trans rfl; have hcz132_1 : w129.cell? ⟨gb390, 1, none⟩ = some (.slice none 0 0) := (blk_cell BK390.out 1).trans rfl; have hcz132_2 : w129.cell? ⟨gb390, 2, none⟩ = some (.slice none 0 0) := (blk_cell BK390.out 2).trans rfl; have hcz132_3 : w129.cell? ⟨gb390, 3, none⟩ = some (.slice none 0 0) := (blk_cell BK390.out 3).trans rfl; have hcz132_4 : w129.cell? ⟨gb390, 4, none⟩ = some (.int .i64 0) := (blk_cell BK390.out 4).trans rfl; have hcz132_5 : w129.cell? ⟨gb390, 5, none⟩ = some (.int .i64 0) := (blk_cell BK390.out 5).trans rfl; have hcz132_6 : w129.cell? ⟨gb390, 6, none⟩ = some (.int .i64 0) := (blk_cell BK390.out 6).trans rfl; have hcz132_7 : w129.cell? ⟨gb390, 7, none⟩ = some (.int .i64 0) := (blk_cell BK390.out 7).trans rfl; have hfz132_0 := blk_frozen BK390.out 0; have hfz132_1 := blk_frozen BK390.out 1; have hfz132_2 := blk_frozen BK390.out 2; have hfz132_3 := blk_frozen BK390.out 3; have hfz132_4 := blk_frozen BK390.out 4; have hfz132_5 := blk_frozen BK390.out 5; have hfz132_6 := blk_frozen BK390.out 6; have hfz132_7 := blk_frozen BK390.out 7))
            refine bodyPost_ret (results_ctt rfl _ _ gb390 27 #[.int .i64 0, .slice none 0 0, .slice none 0 0, .slice none 0 0, .int .i64 0, .int .i64 0, .int .i64 0, .int .i64 0] (0, 0) _ rfl (by (with_reducible repeat (first | refine blk_drewN ?_ _ | refine blk_drew ?_ | refine blk_alloc ?_ _)); refine blk_put (cs := #[.int .i64 0, .slice none 0 0, .slice none 0 0, .slice none 0 0, .int .i64 0, .int .i64 0, .int .i64 0, .int .i64 0]) ?_ 7 _ rfl; (with_reducible repeat (first | refine blk_drewN ?_ _ | refine blk_drew ?_ | refine blk_alloc ?_ _)); refine blk_put (cs := #[.int .i64 0, .slice none 0 0, .slice none 0 0, .slice none 0 0, .int .i64 0, .int .i64 0, .int .i64 0, .int .i64 0]) ?_ 6 _ rfl; (with_reducible repeat (first | refine blk_drewN ?_ _ | refine blk_drew ?_ | refine blk_alloc ?_ _)); refine blk_put (cs := #[.int .i64 0, .slice none 0 0, .slice none 0 0, .slice none 0 0, .int .i64 0, .int .i64 0, .int .i64 0, .int .i64 0]) ?_ 5 _ rfl; (with_reducible repeat (first | refine blk_drewN ?_ _ | refine blk_drew ?_ | refine blk_alloc ?_ _)); refine blk_put (cs := #[.int .i64 0, .slice none 0 0, .slice none 0 0, .slice none 0 0, .int .i64 0, .int .i64 0, .int .i64 0, .int .i64 0]) ?_ 4 _ rfl; (with_reducible repeat (first | refine blk_drewN ?_ _ | refine blk_drew ?_ | refine blk_alloc ?_ _)); refine blk_put (cs := #[.int .i64 0, .slice none 0 0, .slice none 0 0, .slice none 0 0, .int .i64 0, .int .i64 0, .int .i64 0, .int .i64 0]) ?_ 3 _ rfl; (with_reducible repeat (first | refine blk_drewN ?_ _ | refine blk_drew ?_ | refine blk_alloc ?_ _)); refine blk_put (cs := #[.int .i64 0, .slice none 0 0, .slice none 0 0, .slice none 0 0, .int .i64 0, .int .i64 0, .int .i64 0, .int .i64 0]) ?_ 2 _ rfl; (with_reducible repeat (first | refine blk_drewN ?_ _ | refine blk_drew ?_ | refine blk_alloc ?_ _)); refine blk_put (cs := #[.int .i64 0, .slice none 0 0, .slice none 0 0, .slice none 0 0, .int .i64 0, .int .i64 0, .int .i64 0, .int .i64 0]) ?_ 1 _ rfl; (with_reducible repeat (first | refine blk_drewN ?_ _ | refine blk_drew ?_ | refine blk_alloc ?_ _)); refine blk_put (cs := #[.int .i64 0, .slice none 0 0, .slice none 0 0, .slice none 0 0, .int .i64 0, .int .i64 0, .int .i64 0, .int .i64 0]) ?_ 0 _ rfl; (with_reducible repeat (first | refine blk_drewN ?_ _ | refine blk_drew ?_ | refine blk_alloc ?_ _)); exact BK390.out) Try.underlying27 rfl (by kernel_rfl)) rfl ?_
            exact ⟨_, _, _, by first | rfl | (simp [errW_none, errW_some] <;> rfl) | (simp only [← hji81]; first | rfl | (simp [errW_none, errW_some] <;> rfl)) | (simp [*, errW_none, errW_some] <;> rfl), by first | exact Kd.R_nil _ _ _ _ _ | exact Kd.N_nil _ _ _ _ _ | exact Kd.V_nil _ _ _ _ _ | exact Kd.Q_nil _ _ _ _ _ | exact Kd.S_nil _ _ _ _ _, by first | exact Kd.R_nil _ _ _ _ _ | exact Kd.N_nil _ _ _ _ _ | exact Kd.V_nil _ _ _ _ _ | exact Kd.Q_nil _ _ _ _ _ | exact Kd.S_nil _ _ _ _ _, by first | exact Kd.R_nil _ _ _ _ _ | exact Kd.N_nil _ _ _ _ _ | exact Kd.V_nil _ _ _ _ _ | exact Kd.Q_nil _ _ _ _ _ | exact Kd.S_nil _ _ _ _ _, by repeat (first | (with_reducible first | exact HB.out | apply below_alloc | apply pw_below_drewN | apply below_drew1 | refine below_set ?_ (IsS103.ge HI392.out) | refine below_set ?_ GE390.out | refine below_set ?_ GE395.out) | exact HB.out)⟩
        · rw [if_neg c83] at H
          exact absurd H (by simp)
      · rw [if_neg c82] at H
        exact absurd H (by simp)

end Go.Proofs.Ytopfaeefhicljaa.Q
