-- printed by a turned print (wip/mkprint.py of this repo) out of the translation; Lean checks it
import Derived.Test.YtolcmjoapnldiaaM0
import Derived.Test.YtolcmjoapnldiaaM1
import Derived.Test.YtolcmjoapnldiaaM2
import Derived.Test.YtolcmjoapnldiaaM3
namespace Go.Proofs.Ytolcmjoapnldiaa.Q
open Go.RowKit Go.Proofs.YtolcmjoapnldiaaW.PrintWords Go.Proofs.YtolcmjoapnldiaaW.PrintLast Go.Proofs.YtolcmjoapnldiaaW.PrintMore
attribute [local go_sem] max2_int min2_int max_two min_two max_three min_three max_four min_four   -- for this text's walks alone
set_option linter.unusedVariables false
set_option linter.unusedSimpArgs false

/-! ### msg_Encode: function 28 -/
mutual
def msg_Encode.j0 : Nat → Bool → Bool → Bool → List Int → Int → Int → Int → Int → Int → Int → Int → Int → ByteArray → ByteArray → Bool → Int → Option (List Int × Int)
  | 0, _, _, _, _, _, _, _, _, _, _, _, _, _, _, _, _ => none
  | k + 1, x5, x6, x7, x8, x121000, x121001, x121002, x121003, x121004, x121005, x121006, x121007, x121008, x121009, x121010, x121011 => if x5 = true then ((num_Put.f k x8 (IntKind.u64.wrap (x121006))).bind fun t141 => (msg_Encode.j1 k x6 x7 t141 x121000 x121001 x121002 x121003 x121004 x121005 x121006 x121007 x121008 x121009 x121010 x121011)) else (msg_Encode.j1 k x6 x7 x8 x121000 x121001 x121002 x121003 x121004 x121005 x121006 x121007 x121008 x121009 x121010 x121011)
def msg_Encode.j1 : Nat → Bool → Bool → List Int → Int → Int → Int → Int → Int → Int → Int → Int → ByteArray → ByteArray → Bool → Int → Option (List Int × Int)
  | 0, _, _, _, _, _, _, _, _, _, _, _, _, _, _, _ => none
  | k + 1, x6, x7, x8, x121000, x121001, x121002, x121003, x121004, x121005, x121006, x121007, x121008, x121009, x121010, x121011 => if x6 = true then ((num_Put.f k x8 (IntKind.u64.wrap (x121007))).bind fun t144 => ((num_Text.f k t144 x121008).bind fun t147 => ((num_Text.f k t147 x121009).bind fun t150 => (msg_Encode.j2 k x7 t150 x121000 x121001 x121002 x121003 x121004 x121005 x121006 x121007 x121008 x121009 x121010 x121011)))) else (msg_Encode.j2 k x7 x8 x121000 x121001 x121002 x121003 x121004 x121005 x121006 x121007 x121008 x121009 x121010 x121011)
def msg_Encode.j2 : Nat → Bool → List Int → Int → Int → Int → Int → Int → Int → Int → Int → ByteArray → ByteArray → Bool → Int → Option (List Int × Int)
  | 0, _, _, _, _, _, _, _, _, _, _, _, _, _, _ => none
  | k + 1, x7, x8, x121000, x121001, x121002, x121003, x121004, x121005, x121006, x121007, x121008, x121009, x121010, x121011 => if x7 = true then ((num_Put.f k x8 (IntKind.u64.wrap (x121011))).bind fun t153 => (msg_Encode.j3 k t153 x121000 x121001 x121002 x121003 x121004 x121005 x121006 x121007 x121008 x121009 x121010 x121011)) else (msg_Encode.j3 k x8 x121000 x121001 x121002 x121003 x121004 x121005 x121006 x121007 x121008 x121009 x121010 x121011)
def msg_Encode.j3 : Nat → List Int → Int → Int → Int → Int → Int → Int → Int → Int → ByteArray → ByteArray → Bool → Int → Option (List Int × Int)
  | 0, _, _, _, _, _, _, _, _, _, _, _, _, _ => none
  | k + 1, x8, x121000, x121001, x121002, x121003, x121004, x121005, x121006, x121007, x121008, x121009, x121010, x121011 => if x121000 = 4 then ((msg_bit.f x121010).bind fun t156 => ((num_Put.f k x8 t156).bind fun t157 => ((num_Text.f k t157 x121009).bind fun t160 => (some (t160, 0))))) else (some (x8, 0))
end
def msg_Encode.f (k : Nat) (a0_0 : Int) (a0_1 : Int) (a0_2 : Int) (a0_3 : Int) (a0_4 : Int) (a0_5 : Int) (a0_6 : Int) (a0_7 : Int) (a0_8 : ByteArray) (a0_9 : ByteArray) (a0_10 : Bool) (a0_11 : Int) : Option (List Int × Int) := (msg_Msg_Right.f a0_0 a0_1 a0_2 a0_3 a0_4 a0_5 a0_6 a0_7 a0_8 a0_9 a0_10 a0_11).bind fun t121 => (if t121 = true then ((msg_has.f a0_0).bind fun bt122 => ((num_Put.f k ([] : List Int) (IntKind.u64.wrap (a0_0))).bind fun t126 => ((num_Put.f k t126 (IntKind.u64.wrap (a0_1))).bind fun t129 => ((num_Put.f k t129 (IntKind.u64.wrap (a0_2))).bind fun t132 => ((num_Tid.f k t132 a0_3 a0_4).bind fun t135 => (if bt122.1 = true then ((num_Put.f k t135 a0_5).bind fun t138 => (msg_Encode.j0 k bt122.2.1 bt122.2.2.1 bt122.2.2.2 t138 a0_0 a0_1 a0_2 a0_3 a0_4 a0_5 a0_6 a0_7 a0_8 a0_9 a0_10 a0_11)) else (msg_Encode.j0 k bt122.2.1 bt122.2.2.1 bt122.2.2.2 t135 a0_0 a0_1 a0_2 a0_3 a0_4 a0_5 a0_6 a0_7 a0_8 a0_9 a0_10 a0_11))))))) else (some (([] : List Int), 1)))
theorem msg_Encode.mono_l : ∀ k, (∀ y0 y1 y2 y3 y4 y5 y6 y7 y8 y9 y10 y11 y12 y13 y14 y15, LeO (msg_Encode.j0 k y0 y1 y2 y3 y4 y5 y6 y7 y8 y9 y10 y11 y12 y13 y14 y15) (msg_Encode.j0 (k + 1) y0 y1 y2 y3 y4 y5 y6 y7 y8 y9 y10 y11 y12 y13 y14 y15)) ∧ (∀ y0 y1 y2 y3 y4 y5 y6 y7 y8 y9 y10 y11 y12 y13 y14, LeO (msg_Encode.j1 k y0 y1 y2 y3 y4 y5 y6 y7 y8 y9 y10 y11 y12 y13 y14) (msg_Encode.j1 (k + 1) y0 y1 y2 y3 y4 y5 y6 y7 y8 y9 y10 y11 y12 y13 y14)) ∧ (∀ y0 y1 y2 y3 y4 y5 y6 y7 y8 y9 y10 y11 y12 y13, LeO (msg_Encode.j2 k y0 y1 y2 y3 y4 y5 y6 y7 y8 y9 y10 y11 y12 y13) (msg_Encode.j2 (k + 1) y0 y1 y2 y3 y4 y5 y6 y7 y8 y9 y10 y11 y12 y13)) ∧ (∀ y0 y1 y2 y3 y4 y5 y6 y7 y8 y9 y10 y11 y12, LeO (msg_Encode.j3 k y0 y1 y2 y3 y4 y5 y6 y7 y8 y9 y10 y11 y12) (msg_Encode.j3 (k + 1) y0 y1 y2 y3 y4 y5 y6 y7 y8 y9 y10 y11 y12))
  | 0 => ⟨fun _ _ _ _ _ _ _ _ _ _ _ _ _ _ _ _ r h => by simp [msg_Encode.j0] at h, fun _ _ _ _ _ _ _ _ _ _ _ _ _ _ _ r h => by simp [msg_Encode.j1] at h, fun _ _ _ _ _ _ _ _ _ _ _ _ _ _ r h => by simp [msg_Encode.j2] at h, fun _ _ _ _ _ _ _ _ _ _ _ _ _ r h => by simp [msg_Encode.j3] at h⟩
  | k + 1 => by
    obtain ⟨ih0, ih1, ih2, ih3⟩ := msg_Encode.mono_l k
    refine ⟨?_, ?_, ?_, ?_⟩
    · intro y0 y1 y2 y3 y4 y5 y6 y7 y8 y9 y10 y11 y12 y13 y14 y15
      unfold msg_Encode.j0
      repeat' first
      | (with_reducible exact ih0 _ _ _ _ _ _ _ _ _ _ _ _ _ _ _ _)
      | (with_reducible exact ih1 _ _ _ _ _ _ _ _ _ _ _ _ _ _ _)
      | (with_reducible exact ih2 _ _ _ _ _ _ _ _ _ _ _ _ _ _)
      | (with_reducible exact ih3 _ _ _ _ _ _ _ _ _ _ _ _ _)
      | (with_reducible exact num_Put.mono _ _ _)
      | (with_reducible exact num_Text.mono _ _ _)
      | (with_reducible exact num_Tid.mono _ _ _ _)
      | (with_reducible exact LeO.refl _)
      | (with_reducible exact LeO.none _)
      | (with_reducible refine LeO.ite ?_ ?_)
      | (with_reducible refine LeO.bind ?_ (fun _ => ?_))
      | exact ih0 _ _ _ _ _ _ _ _ _ _ _ _ _ _ _ _
      | exact ih1 _ _ _ _ _ _ _ _ _ _ _ _ _ _ _
      | exact ih2 _ _ _ _ _ _ _ _ _ _ _ _ _ _
      | exact ih3 _ _ _ _ _ _ _ _ _ _ _ _ _
      | exact num_Put.mono _ _ _
      | exact num_Text.mono _ _ _
      | exact num_Tid.mono _ _ _ _
      | exact LeO.none _
      | refine LeO.ite ?_ ?_
      | refine LeO.bind ?_ (fun _ => ?_)
    · intro y0 y1 y2 y3 y4 y5 y6 y7 y8 y9 y10 y11 y12 y13 y14
      unfold msg_Encode.j1
      repeat' first
      | (with_reducible exact ih0 _ _ _ _ _ _ _ _ _ _ _ _ _ _ _ _)
      | (with_reducible exact ih1 _ _ _ _ _ _ _ _ _ _ _ _ _ _ _)
      | (with_reducible exact ih2 _ _ _ _ _ _ _ _ _ _ _ _ _ _)
      | (with_reducible exact ih3 _ _ _ _ _ _ _ _ _ _ _ _ _)
      | (with_reducible exact num_Put.mono _ _ _)
      | (with_reducible exact num_Text.mono _ _ _)
      | (with_reducible exact num_Tid.mono _ _ _ _)
      | (with_reducible exact LeO.refl _)
      | (with_reducible exact LeO.none _)
      | (with_reducible refine LeO.ite ?_ ?_)
      | (with_reducible refine LeO.bind ?_ (fun _ => ?_))
      | exact ih0 _ _ _ _ _ _ _ _ _ _ _ _ _ _ _ _
      | exact ih1 _ _ _ _ _ _ _ _ _ _ _ _ _ _ _
      | exact ih2 _ _ _ _ _ _ _ _ _ _ _ _ _ _
      | exact ih3 _ _ _ _ _ _ _ _ _ _ _ _ _
      | exact num_Put.mono _ _ _
      | exact num_Text.mono _ _ _
      | exact num_Tid.mono _ _ _ _
      | exact LeO.none _
      | refine LeO.ite ?_ ?_
      | refine LeO.bind ?_ (fun _ => ?_)
    · intro y0 y1 y2 y3 y4 y5 y6 y7 y8 y9 y10 y11 y12 y13
      unfold msg_Encode.j2
      repeat' first
      | (with_reducible exact ih0 _ _ _ _ _ _ _ _ _ _ _ _ _ _ _ _)
      | (with_reducible exact ih1 _ _ _ _ _ _ _ _ _ _ _ _ _ _ _)
      | (with_reducible exact ih2 _ _ _ _ _ _ _ _ _ _ _ _ _ _)
      | (with_reducible exact ih3 _ _ _ _ _ _ _ _ _ _ _ _ _)
      | (with_reducible exact num_Put.mono _ _ _)
      | (with_reducible exact num_Text.mono _ _ _)
      | (with_reducible exact num_Tid.mono _ _ _ _)
      | (with_reducible exact LeO.refl _)
      | (with_reducible exact LeO.none _)
      | (with_reducible refine LeO.ite ?_ ?_)
      | (with_reducible refine LeO.bind ?_ (fun _ => ?_))
      | exact ih0 _ _ _ _ _ _ _ _ _ _ _ _ _ _ _ _
      | exact ih1 _ _ _ _ _ _ _ _ _ _ _ _ _ _ _
      | exact ih2 _ _ _ _ _ _ _ _ _ _ _ _ _ _
      | exact ih3 _ _ _ _ _ _ _ _ _ _ _ _ _
      | exact num_Put.mono _ _ _
      | exact num_Text.mono _ _ _
      | exact num_Tid.mono _ _ _ _
      | exact LeO.none _
      | refine LeO.ite ?_ ?_
      | refine LeO.bind ?_ (fun _ => ?_)
    · intro y0 y1 y2 y3 y4 y5 y6 y7 y8 y9 y10 y11 y12
      unfold msg_Encode.j3
      repeat' first
      | (with_reducible exact ih0 _ _ _ _ _ _ _ _ _ _ _ _ _ _ _ _)
      | (with_reducible exact ih1 _ _ _ _ _ _ _ _ _ _ _ _ _ _ _)
      | (with_reducible exact ih2 _ _ _ _ _ _ _ _ _ _ _ _ _ _)
      | (with_reducible exact ih3 _ _ _ _ _ _ _ _ _ _ _ _ _)
      | (with_reducible exact num_Put.mono _ _ _)
      | (with_reducible exact num_Text.mono _ _ _)
      | (with_reducible exact num_Tid.mono _ _ _ _)
      | (with_reducible exact LeO.refl _)
      | (with_reducible exact LeO.none _)
      | (with_reducible refine LeO.ite ?_ ?_)
      | (with_reducible refine LeO.bind ?_ (fun _ => ?_))
      | exact ih0 _ _ _ _ _ _ _ _ _ _ _ _ _ _ _ _
      | exact ih1 _ _ _ _ _ _ _ _ _ _ _ _ _ _ _
      | exact ih2 _ _ _ _ _ _ _ _ _ _ _ _ _ _
      | exact ih3 _ _ _ _ _ _ _ _ _ _ _ _ _
      | exact num_Put.mono _ _ _
      | exact num_Text.mono _ _ _
      | exact num_Tid.mono _ _ _ _
      | exact LeO.none _
      | refine LeO.ite ?_ ?_
      | refine LeO.bind ?_ (fun _ => ?_)
theorem msg_Encode.mono : ∀ a0 a1 a2 a3 a4 a5 a6 a7 a8 a9 a10 a11 k, LeO (msg_Encode.f k a0 a1 a2 a3 a4 a5 a6 a7 a8 a9 a10 a11) (msg_Encode.f (k + 1) a0 a1 a2 a3 a4 a5 a6 a7 a8 a9 a10 a11) := by
  intro a0 a1 a2 a3 a4 a5 a6 a7 a8 a9 a10 a11 k
  obtain ⟨ih0, ih1, ih2, ih3⟩ := msg_Encode.mono_l k
  unfold msg_Encode.f
  repeat' first
      | (with_reducible exact ih0 _ _ _ _ _ _ _ _ _ _ _ _ _ _ _ _)
      | (with_reducible exact ih1 _ _ _ _ _ _ _ _ _ _ _ _ _ _ _)
      | (with_reducible exact ih2 _ _ _ _ _ _ _ _ _ _ _ _ _ _)
      | (with_reducible exact ih3 _ _ _ _ _ _ _ _ _ _ _ _ _)
      | (with_reducible exact num_Put.mono _ _ _)
      | (with_reducible exact num_Text.mono _ _ _)
      | (with_reducible exact num_Tid.mono _ _ _ _)
      | (with_reducible exact LeO.refl _)
      | (with_reducible exact LeO.none _)
      | (with_reducible refine LeO.ite ?_ ?_)
      | (with_reducible refine LeO.bind ?_ (fun _ => ?_))
      | exact ih0 _ _ _ _ _ _ _ _ _ _ _ _ _ _ _ _
      | exact ih1 _ _ _ _ _ _ _ _ _ _ _ _ _ _ _
      | exact ih2 _ _ _ _ _ _ _ _ _ _ _ _ _ _
      | exact ih3 _ _ _ _ _ _ _ _ _ _ _ _ _
      | exact num_Put.mono _ _ _
      | exact num_Text.mono _ _ _
      | exact num_Tid.mono _ _ _ _
      | exact LeO.none _
      | refine LeO.ite ?_ ?_
      | refine LeO.bind ?_ (fun _ => ?_)
def msg_Encode.T4 : Bool × List (List Nat × List Nat) := (true, [([], []), ([0], [0]), ([1], [1]), ([2], [2]), ([], []), ([4], [4]), ([5], [5]), ([3, 6, 3], [3, 6]), ([], []), ([8], [8]), ([9], [9]), ([7, 10, 7], [7, 10]), ([11, 11, 0, 1, 2, 3, 4, 5, 6, 7, 8, 9, 10, 11], [11])])
def msg_Encode.B4 : List Nat := [0, 1, 3, 7, 0, 16, 48, 127, 0, 256, 768, 2047, 4095]
theorem msg_Encode.tab4 : rtab .any (opsOf Try.f28 4) = msg_Encode.T4 := by kernel_rfl
theorem msg_Encode.bits4 : waitsOk msg_Encode.T4.2 msg_Encode.B4 = true := by kernel_rfl
def msg_Encode.T11 : Bool × List (List Nat × List Nat) := (true, [([], []), ([], []), ([1], [1]), ([2], [2]), ([0, 3], [0, 3]), ([], []), ([5], [5]), ([4, 6, 4], [4, 6]), ([], []), ([8], [8]), ([7, 9, 7], [7, 9]), ([10, 10, 0, 1, 2, 3, 4, 5, 6, 7, 8, 9, 10], [0, 10])])
def msg_Encode.B11 : List Nat := [0, 0, 2, 6, 15, 0, 32, 127, 0, 256, 1023, 2047]
theorem msg_Encode.tab11 : rtab .any (opsOf Try.f28 11) = msg_Encode.T11 := by kernel_rfl
theorem msg_Encode.bits11 : waitsOk msg_Encode.T11.2 msg_Encode.B11 = true := by kernel_rfl
def msg_Encode.T15 : Bool × List (List Nat × List Nat) := (true, [([], []), ([], []), ([1], [1]), ([2], [2]), ([0, 3, 3], [0, 3]), ([], []), ([5], [5]), ([4, 6, 4], [4, 6]), ([7, 7, 0, 1, 2, 3, 4, 5, 6, 7], [0, 7])])
def msg_Encode.B15 : List Nat := [0, 0, 2, 6, 15, 0, 32, 127, 255]
theorem msg_Encode.tab15 : rtab .any (opsOf Try.f28 15) = msg_Encode.T15 := by kernel_rfl
theorem msg_Encode.bits15 : waitsOk msg_Encode.T15.2 msg_Encode.B15 = true := by kernel_rfl
set_option maxHeartbeats 8000000 in
set_option maxRecDepth 100000 in
theorem msg_Encode.calls (k : Nat) (a0_0 : Int) (a0_1 : Int) (a0_2 : Int) (a0_3 : Int) (a0_4 : Int) (a0_5 : Int) (a0_6 : Int) (a0_7 : Int) (a0_8 : ByteArray) (a0_9 : ByteArray) (a0_10 : Bool) (a0_11 : Int) (r1 : List Int) (r2 : Int) (w : World) (h : msg_Encode.f k a0_0 a0_1 a0_2 a0_3 a0_4 a0_5 a0_6 a0_7 a0_8 a0_9 a0_10 a0_11 = some (r1, r2)) :
    Calls Try.prog 28 #[.agg #[.int .i64 a0_0, .int .i64 a0_1, .int .i64 a0_2, .int .u64 a0_3, .int .i64 a0_4, .int .u64 a0_5, .int .i64 a0_6, .int .i64 a0_7, .string a0_8, .string a0_9, .bool a0_10, .int .i64 a0_11]] w fun e w' => ∃ v0_ : Value, e = .returned (.tuple #[v0_, .int .i64 r2]) ∧ Kd.R (Kd.int .u8) 5 w' w.heap.size (fun _ => True) v0_ r1 ∧ Below w.heap.size w w' := by
  have hu47 := Try.underlying47
  have hu28 := Try.underlying28
  have HB := Aside0.mk (Below.refl w.heap.size w)
  have H : ((msg_Msg_Right.f a0_0 a0_1 a0_2 a0_3 a0_4 a0_5 a0_6 a0_7 a0_8 a0_9 a0_10 a0_11).bind fun t121 => (if t121 = true then ((msg_has.f a0_0).bind fun bt122 => ((num_Put.f k ([] : List Int) (IntKind.u64.wrap (a0_0))).bind fun t126 => ((num_Put.f k t126 (IntKind.u64.wrap (a0_1))).bind fun t129 => ((num_Put.f k t129 (IntKind.u64.wrap (a0_2))).bind fun t132 => ((num_Tid.f k t132 a0_3 a0_4).bind fun t135 => (if bt122.1 = true then ((num_Put.f k t135 a0_5).bind fun t138 => (msg_Encode.j0 k bt122.2.1 bt122.2.2.1 bt122.2.2.2 t138 a0_0 a0_1 a0_2 a0_3 a0_4 a0_5 a0_6 a0_7 a0_8 a0_9 a0_10 a0_11)) else (msg_Encode.j0 k bt122.2.1 bt122.2.2.1 bt122.2.2.2 t135 a0_0 a0_1 a0_2 a0_3 a0_4 a0_5 a0_6 a0_7 a0_8 a0_9 a0_10 a0_11))))))) else (some (([] : List Int), 1)))) = some (r1, r2) := h
  clear h
  replace H := Option.bind_eq_some_iff.mp H
  obtain ⟨t121, A20, H⟩ := H
  replace H : (if t121 = true then ((msg_has.f a0_0).bind fun bt122 => ((num_Put.f k ([] : List Int) (IntKind.u64.wrap (a0_0))).bind fun t126 => ((num_Put.f k t126 (IntKind.u64.wrap (a0_1))).bind fun t129 => ((num_Put.f k t129 (IntKind.u64.wrap (a0_2))).bind fun t132 => ((num_Tid.f k t132 a0_3 a0_4).bind fun t135 => (if bt122.1 = true then ((num_Put.f k t135 a0_5).bind fun t138 => (msg_Encode.j0 k bt122.2.1 bt122.2.2.1 bt122.2.2.2 t138 a0_0 a0_1 a0_2 a0_3 a0_4 a0_5 a0_6 a0_7 a0_8 a0_9 a0_10 a0_11)) else (msg_Encode.j0 k bt122.2.1 bt122.2.2.1 bt122.2.2.2 t135 a0_0 a0_1 a0_2 a0_3 a0_4 a0_5 a0_6 a0_7 a0_8 a0_9 a0_10 a0_11))))))) else (some (([] : List Int), 1))) = some (r1, r2) := H
  have A2 := Aside0.mk A20
  clear A20
  by_cases c3 : t121 = true
  · subst c3
    have H1 : ((msg_has.f a0_0).bind fun bt122 => ((num_Put.f k ([] : List Int) (IntKind.u64.wrap (a0_0))).bind fun t126 => ((num_Put.f k t126 (IntKind.u64.wrap (a0_1))).bind fun t129 => ((num_Put.f k t129 (IntKind.u64.wrap (a0_2))).bind fun t132 => ((num_Tid.f k t132 a0_3 a0_4).bind fun t135 => (if bt122.1 = true then ((num_Put.f k t135 a0_5).bind fun t138 => (msg_Encode.j0 k bt122.2.1 bt122.2.2.1 bt122.2.2.2 t138 a0_0 a0_1 a0_2 a0_3 a0_4 a0_5 a0_6 a0_7 a0_8 a0_9 a0_10 a0_11)) else (msg_Encode.j0 k bt122.2.1 bt122.2.2.1 bt122.2.2.2 t135 a0_0 a0_1 a0_2 a0_3 a0_4 a0_5 a0_6 a0_7 a0_8 a0_9 a0_10 a0_11))))))) = some (r1, r2) := by rw [if_pos rfl] at H; exact H
    clear H
    have H := H1
    clear H1
    replace H := Option.bind_eq_some_iff.mp H
    obtain ⟨⟨t122, t123, t124, t125⟩, A40, H⟩ := H
    replace H : ((num_Put.f k ([] : List Int) (IntKind.u64.wrap (a0_0))).bind fun t126 => ((num_Put.f k t126 (IntKind.u64.wrap (a0_1))).bind fun t129 => ((num_Put.f k t129 (IntKind.u64.wrap (a0_2))).bind fun t132 => ((num_Tid.f k t132 a0_3 a0_4).bind fun t135 => (if t122 = true then ((num_Put.f k t135 a0_5).bind fun t138 => (msg_Encode.j0 k t123 t124 t125 t138 a0_0 a0_1 a0_2 a0_3 a0_4 a0_5 a0_6 a0_7 a0_8 a0_9 a0_10 a0_11)) else (msg_Encode.j0 k t123 t124 t125 t135 a0_0 a0_1 a0_2 a0_3 a0_4 a0_5 a0_6 a0_7 a0_8 a0_9 a0_10 a0_11)))))) = some (r1, r2) := H
    have A4 := Aside0.mk A40
    clear A40
    replace H := Option.bind_eq_some_iff.mp H
    obtain ⟨t126, A50, H⟩ := H
    replace H : ((num_Put.f k t126 (IntKind.u64.wrap (a0_1))).bind fun t129 => ((num_Put.f k t129 (IntKind.u64.wrap (a0_2))).bind fun t132 => ((num_Tid.f k t132 a0_3 a0_4).bind fun t135 => (if t122 = true then ((num_Put.f k t135 a0_5).bind fun t138 => (msg_Encode.j0 k t123 t124 t125 t138 a0_0 a0_1 a0_2 a0_3 a0_4 a0_5 a0_6 a0_7 a0_8 a0_9 a0_10 a0_11)) else (msg_Encode.j0 k t123 t124 t125 t135 a0_0 a0_1 a0_2 a0_3 a0_4 a0_5 a0_6 a0_7 a0_8 a0_9 a0_10 a0_11))))) = some (r1, r2) := H
    have A5 := Aside0.mk A50
    clear A50
    replace H := Option.bind_eq_some_iff.mp H
    obtain ⟨t129, A60, H⟩ := H
    replace H : ((num_Put.f k t129 (IntKind.u64.wrap (a0_2))).bind fun t132 => ((num_Tid.f k t132 a0_3 a0_4).bind fun t135 => (if t122 = true then ((num_Put.f k t135 a0_5).bind fun t138 => (msg_Encode.j0 k t123 t124 t125 t138 a0_0 a0_1 a0_2 a0_3 a0_4 a0_5 a0_6 a0_7 a0_8 a0_9 a0_10 a0_11)) else (msg_Encode.j0 k t123 t124 t125 t135 a0_0 a0_1 a0_2 a0_3 a0_4 a0_5 a0_6 a0_7 a0_8 a0_9 a0_10 a0_11)))) = some (r1, r2) := H
    have A6 := Aside0.mk A60
    clear A60
    replace H := Option.bind_eq_some_iff.mp H
    obtain ⟨t132, A70, H⟩ := H
    replace H : ((num_Tid.f k t132 a0_3 a0_4).bind fun t135 => (if t122 = true then ((num_Put.f k t135 a0_5).bind fun t138 => (msg_Encode.j0 k t123 t124 t125 t138 a0_0 a0_1 a0_2 a0_3 a0_4 a0_5 a0_6 a0_7 a0_8 a0_9 a0_10 a0_11)) else (msg_Encode.j0 k t123 t124 t125 t135 a0_0 a0_1 a0_2 a0_3 a0_4 a0_5 a0_6 a0_7 a0_8 a0_9 a0_10 a0_11))) = some (r1, r2) := H
    have A7 := Aside0.mk A70
    clear A70
    replace H := Option.bind_eq_some_iff.mp H
    obtain ⟨t135, A80, H⟩ := H
    replace H : (if t122 = true then ((num_Put.f k t135 a0_5).bind fun t138 => (msg_Encode.j0 k t123 t124 t125 t138 a0_0 a0_1 a0_2 a0_3 a0_4 a0_5 a0_6 a0_7 a0_8 a0_9 a0_10 a0_11)) else (msg_Encode.j0 k t123 t124 t125 t135 a0_0 a0_1 a0_2 a0_3 a0_4 a0_5 a0_6 a0_7 a0_8 a0_9 a0_10 a0_11)) = some (r1, r2) := H
    have A8 := Aside0.mk A80
    clear A80
    have HC9 := Aside0.mk H
    clear H
    go_enter Try.func28, Try.ntmps28
    try go_wp2_with (first | ((with_reducible refine gate_dst (N := 1) rfl ?_); refine box_event ?hg (N := 1) ?hd (cs := #[.int .i64 a0_0, .int .i64 a0_1, .int .i64 a0_2, .int .u64 a0_3, .int .i64 a0_4, .int .u64 a0_5, .int .i64 a0_6, .int .i64 a0_7, .string a0_8, .string a0_9, .bool a0_10, .int .i64 a0_11]) (t := 47) ?hr ?_; (case hd => rfl); (case hg => rfl); (case hr => first | (go_simp; done) | (go_simp; rfl)); intro gb120 hg w10 hbox hb; have n0_ := Aside0.mk (below_step (by repeat (first | (with_reducible first | exact HB.out | apply below_alloc | apply pw_below_drewN | apply below_drew1) | exact HB.out)) hb); have n1_ := Aside0.mk (hbox); have n2_ := Aside0.mk ((by rw [hg]; exact (below_size (by repeat (first | (with_reducible first | exact HB.out | apply below_alloc | apply pw_below_drewN | apply below_drew1) | exact HB.out))) : w.heap.size ≤ gb120)); have n3_ := Aside0.mk ((by rw [hg]; exact (below_size (by repeat (first | (with_reducible first | exact HB.out | apply below_alloc | apply pw_below_drewN | apply below_drew1) | exact HB.out))) : w.heap.size ≤ gb120)); clear HB; have HB := n0_; have BK120 := n1_; have GW120 := n2_; have GE120 := n3_; clear n0_ n1_ n2_ n3_; clear hb hbox hg; have hcz11_0 : w10.cell? ⟨gb120, 0, none⟩ = some (.int .i64 a0_0) := (blk_cell BK120.out 0).trans rfl; have hcz11_1 : w10.cell? ⟨gb120, 1, none⟩ = some (.int .i64 a0_1) := (blk_cell BK120.out 1).trans rfl; have hcz11_2 : w10.cell? ⟨gb120, 2, none⟩ = some (.int .i64 a0_2) := (blk_cell BK120.out 2).trans rfl; have hcz11_3 : w10.cell? ⟨gb120, 3, none⟩ = some (.int .u64 a0_3) := (blk_cell BK120.out 3).trans rfl; have hcz11_4 : w10.cell? ⟨gb120, 4, none⟩ = some (.int .i64 a0_4) := (blk_cell BK120.out 4).trans rfl; have hcz11_5 : w10.cell? ⟨gb120, 5, none⟩ = some (.int .u64 a0_5) := (blk_cell BK120.out 5).trans rfl; have hcz11_6 : w10.cell? ⟨gb120, 6, none⟩ = some (.int .i64 a0_6) := (blk_cell BK120.out 6).trans rfl; have hcz11_7 : w10.cell? ⟨gb120, 7, none⟩ = some (.int .i64 a0_7) := (blk_cell BK120.out 7).trans rfl; have hcz11_8 : w10.cell? ⟨gb120, 8, none⟩ = some (.string a0_8) := (blk_cell BK120.out 8).trans rfl; have hcz11_9 : w10.cell? ⟨gb120, 9, none⟩ = some (.string a0_9) := (blk_cell BK120.out 9).trans rfl; have hcz11_10 : w10.cell? ⟨gb120, 10, none⟩ = some (.bool a0_10) := (blk_cell BK120.out 10).trans rfl; have hcz11_11 : w10.cell? ⟨gb120, 11, none⟩ = some (.int .i64 a0_11) := (blk_cell BK120.out 11).trans rfl; have hfz11_0 := blk_frozen BK120.out 0; have hfz11_1 := blk_frozen BK120.out 1; have hfz11_2 := blk_frozen BK120.out 2; have hfz11_3 := blk_frozen BK120.out 3; have hfz11_4 := blk_frozen BK120.out 4; have hfz11_5 := blk_frozen BK120.out 5; have hfz11_6 := blk_frozen BK120.out 6; have hfz11_7 := blk_frozen BK120.out 7; have hfz11_8 := blk_frozen BK120.out 8; have hfz11_9 := blk_frozen BK120.out 9; have hfz11_10 := blk_frozen BK120.out 10; have hfz11_11 := blk_frozen BK120.out 11) | ((with_reducible refine gate_callee (f := 31) rfl ?_); refine goesL_ (some 10) rfl rfl Try.func31 (by kernel_rfl) rfl #[.agg #[.int .i64 a0_0, .int .i64 a0_1, .int .i64 a0_2, .int .u64 a0_3, .int .i64 a0_4, .int .u64 a0_5, .int .i64 a0_6, .int .i64 a0_7, .string a0_8, .string a0_9, .bool a0_10, .int .i64 a0_11]] rfl (by (try simp only [List.map_toArray, List.map_cons, List.map_nil]); first | done | rfl | (simp only [List.length_drop, List.length_take]; rfl)) ?_; (with_reducible refine (msg_Msg_Right.calls a0_0 a0_1 a0_2 a0_3 a0_4 a0_5 a0_6 a0_7 a0_8 a0_9 a0_10 a0_11 true _ A2.out).mono ?_); rintro e w12 ⟨rfl, hb⟩; refine ⟨_, rfl, ?_⟩; have n0_ := Aside0.mk (blk_below (g := gb120) (o := .cells #[.int .i64 a0_0, .int .i64 a0_1, .int .i64 a0_2, .int .u64 a0_3, .int .i64 a0_4, .int .u64 a0_5, .int .i64 a0_6, .int .i64 a0_7, .string a0_8, .string a0_9, .bool a0_10, .int .i64 a0_11] 47 (0, 0)) (by (with_reducible repeat (first | refine blk_drewN ?_ _ | refine blk_drew ?_ | refine blk_alloc ?_ _)); exact BK120.out) hb); have n1_ := Aside0.mk (below_step (by repeat (first | (with_reducible first | exact HB.out | apply below_alloc | apply pw_below_drewN | apply below_drew1 | refine below_set ?_ GE120.out) | exact HB.out)) hb); clear BK120; clear HB; have BK120 := n0_; have HB := n1_; clear n0_ n1_; (try clear hb); (try clear hb2); (try clear hk); (try clear hi); have hcz13_0 : w12.cell? ⟨gb120, 0, none⟩ = some (.int .i64 a0_0) := (blk_cell BK120.out 0).trans rfl; have hcz13_1 : w12.cell? ⟨gb120, 1, none⟩ = some (.int .i64 a0_1) := (blk_cell BK120.out 1).trans rfl; have hcz13_2 : w12.cell? ⟨gb120, 2, none⟩ = some (.int .i64 a0_2) := (blk_cell BK120.out 2).trans rfl; have hcz13_3 : w12.cell? ⟨gb120, 3, none⟩ = some (.int .u64 a0_3) := (blk_cell BK120.out 3).trans rfl; have hcz13_4 : w12.cell? ⟨gb120, 4, none⟩ = some (.int .i64 a0_4) := (blk_cell BK120.out 4).trans rfl; have hcz13_5 : w12.cell? ⟨gb120, 5, none⟩ = some (.int .u64 a0_5) := (blk_cell BK120.out 5).trans rfl; have hcz13_6 : w12.cell? ⟨gb120, 6, none⟩ = some (.int .i64 a0_6) := (blk_cell BK120.out 6).trans rfl; have hcz13_7 : w12.cell? ⟨gb120, 7, none⟩ = some (.int .i64 a0_7) := (blk_cell BK120.out 7).trans rfl; have hcz13_8 : w12.cell? ⟨gb120, 8, none⟩ = some (.string a0_8) := (blk_cell BK120.out 8).trans rfl; have hcz13_9 : w12.cell? ⟨gb120, 9, none⟩ = some (.string a0_9) := (blk_cell BK120.out 9).trans rfl; have hcz13_10 : w12.cell? ⟨gb120, 10, none⟩ = some (.bool a0_10) := (blk_cell BK120.out 10).trans rfl; have hcz13_11 : w12.cell? ⟨gb120, 11, none⟩ = some (.int .i64 a0_11) := (blk_cell BK120.out 11).trans rfl; have hfz13_0 := blk_frozen BK120.out 0; have hfz13_1 := blk_frozen BK120.out 1; have hfz13_2 := blk_frozen BK120.out 2; have hfz13_3 := blk_frozen BK120.out 3; have hfz13_4 := blk_frozen BK120.out 4; have hfz13_5 := blk_frozen BK120.out 5; have hfz13_6 := blk_frozen BK120.out 6; have hfz13_7 := blk_frozen BK120.out 7; have hfz13_8 := blk_frozen BK120.out 8; have hfz13_9 := blk_frozen BK120.out 9; have hfz13_10 := blk_frozen BK120.out 10; have hfz13_11 := blk_frozen BK120.out 11) | ((with_reducible refine gate_callee (f := 36) rfl ?_); refine goesL_ (some 15) rfl rfl Try.func36 (by kernel_rfl) rfl #[.int .i64 a0_0] rfl (by (try simp only [List.map_toArray, List.map_cons, List.map_nil]); first | done | rfl | (simp only [List.length_drop, List.length_take]; rfl)) ?_; (with_reducible refine (msg_has.calls a0_0 t122 t123 t124 t125 _ A4.out).mono ?_); rintro e w' ⟨rfl, ⟨nd, rfl⟩⟩; refine ⟨_, rfl, ?_⟩))
    (try (rw [drewN_self w12]; generalize hq_ : World.drewN w12 _ = w12; have n0_ : Aside0 (w12.heap[gb120]? = some (.cells #[.int .i64 a0_0, .int .i64 a0_1, .int .i64 a0_2, .int .u64 a0_3, .int .i64 a0_4, .int .u64 a0_5, .int .i64 a0_6, .int .i64 a0_7, .string a0_8, .string a0_9, .bool a0_10, .int .i64 a0_11] 47 (0, 0))) := ⟨by rw [← hq_]; exact (by (with_reducible repeat (first | refine blk_drewN ?_ _ | refine blk_drew ?_ | refine blk_alloc ?_ _)); exact BK120.out)⟩; have n1_ : Aside0 (Below w.heap.size w w12) := ⟨by rw [← hq_]; exact (by repeat (first | (with_reducible first | exact HB.out | apply below_alloc | apply pw_below_drewN | apply below_drew1 | refine below_set ?_ GE120.out) | exact HB.out))⟩; clear BK120 HB hq_; have BK120 := n0_; have HB := n1_; clear n0_ n1_))
    have n0_ := Aside0.mk (blk_drew BK120.out)
    have n1_ := Aside0.mk (below_drew1 HB.out)
    clear BK120
    clear HB
    have BK120 := n0_
    have HB := n1_
    clear n0_ n1_
    refine start_ (n := 13) (S := fun w' => w'.cell? ⟨gb120, 0, none⟩ = some (.int .i64 a0_0) ∧ w'.cell? ⟨gb120, 1, none⟩ = some (.int .i64 a0_1) ∧ w'.cell? ⟨gb120, 2, none⟩ = some (.int .i64 a0_2) ∧ w'.cell? ⟨gb120, 3, none⟩ = some (.int .u64 a0_3) ∧ w'.cell? ⟨gb120, 4, none⟩ = some (.int .i64 a0_4) ∧ w'.cell? ⟨gb120, 5, none⟩ = some (.int .u64 a0_5) ∧ w'.cell? ⟨gb120, 6, none⟩ = some (.int .i64 a0_6) ∧ w'.cell? ⟨gb120, 7, none⟩ = some (.int .i64 a0_7) ∧ w'.cell? ⟨gb120, 8, none⟩ = some (.string a0_8) ∧ w'.cell? ⟨gb120, 9, none⟩ = some (.string a0_9) ∧ w'.cell? ⟨gb120, 10, none⟩ = some (.bool a0_10) ∧ w'.cell? ⟨gb120, 11, none⟩ = some (.int .i64 a0_11)) (ds := []) #[false, false, false, false, false, false, false, false, false, false, false, false, false] (by kernel_rfl) rfl rfl ⟨(blk_cell BK120.out 0).trans rfl, (blk_cell BK120.out 1).trans rfl, (blk_cell BK120.out 2).trans rfl, (blk_cell BK120.out 3).trans rfl, (blk_cell BK120.out 4).trans rfl, (blk_cell BK120.out 5).trans rfl, (blk_cell BK120.out 6).trans rfl, (blk_cell BK120.out 7).trans rfl, (blk_cell BK120.out 8).trans rfl, (blk_cell BK120.out 9).trans rfl, (blk_cell BK120.out 10).trans rfl, (blk_cell BK120.out 11).trans rfl⟩ (fun hHeld => ?_); refine with_tabW msg_Encode.tab4 msg_Encode.bits4 (fun HT_ HW_ => ?_)
    generalize w12.drew = w14 at BK120 HB hHeld ⊢
    refine pure_ (i := 0) (N := some 20) (v := ?_) (a' := ?_) #[true, false, false, false, false, false, false, false, false, false, false, false, false] rfl rfl (any_of HT_.out (by kernel_rfl)) (fun _ _ _ h => h) (Or.inl ⟨by rfl, ?_⟩) ?_ ?_
    rotate_left
    · intro w'
      go_simp
      with_reducible rfl
    rotate_left
    · simp only [Act.put, List.setIfInBounds_toArray, List.set_cons_zero, List.set_cons_succ, i64_w, i32_w]
      rfl
    refine pure_ (i := 4) (N := some 24) (v := ?_) (a' := ?_) #[true, false, false, false, true, false, false, false, false, false, false, false, false] rfl rfl (any_of HT_.out (by kernel_rfl)) (fun _ _ _ h => h) (Or.inl ⟨by rfl, ?_⟩) ?_ ?_
    rotate_left
    · intro w'
      go_simp
      with_reducible rfl
    rotate_left
    · simp only [Act.put, List.setIfInBounds_toArray, List.set_cons_zero, List.set_cons_succ, i64_w, i32_w]
      rfl
    refine pure_ (i := 8) (N := some 28) (v := ?_) (a' := ?_) #[true, false, false, false, true, false, false, false, true, false, false, false, false] rfl rfl (any_of HT_.out (by kernel_rfl)) (fun _ _ _ h => h) (Or.inl ⟨by rfl, ?_⟩) ?_ ?_
    rotate_left
    · intro w'
      go_simp
      with_reducible rfl
    rotate_left
    · simp only [Act.put, List.setIfInBounds_toArray, List.set_cons_zero, List.set_cons_succ, i64_w, i32_w]
      rfl
    refine take_ (i := 1) (N := some 21) (v := ?_) (a' := ?_) #[true, true, false, false, true, false, false, false, true, false, false, false, false] rfl rfl (take_ofW HT_.out HW_.out (by kernel_rfl)) (fun _ _ _ h => h) (Or.inl ⟨by rfl, ?_⟩) hHeld ?_ ?_
    rotate_left
    · rintro w' ⟨s0, s1, s2, s3, s4, s5, s6, s7, s8, s9, s10, s11⟩
      go_simp
      with_reducible rfl
    rotate_left
    · simp only [Act.put, List.setIfInBounds_toArray, List.set_cons_zero, List.set_cons_succ, i64_w, i32_w]
      rfl
    refine pure_ (i := 2) (N := some 22) (v := ?_) (a' := ?_) #[true, true, true, false, true, false, false, false, true, false, false, false, false] rfl rfl (any_of HT_.out (by kernel_rfl)) (fun _ _ _ h => h) (Or.inl ⟨by rfl, ?_⟩) ?_ ?_
    rotate_left
    · intro w'
      go_simp
      with_reducible rfl
    rotate_left
    · simp only [Act.put, List.setIfInBounds_toArray, List.set_cons_zero, List.set_cons_succ, i64_w, i32_w]
      rfl
    refine take_ (i := 5) (N := some 25) (v := ?_) (a' := ?_) #[true, true, true, false, true, true, false, false, true, false, false, false, false] rfl rfl (take_ofW HT_.out HW_.out (by kernel_rfl)) (fun _ _ _ h => h) (Or.inl ⟨by rfl, ?_⟩) hHeld ?_ ?_
    rotate_left
    · rintro w' ⟨s0, s1, s2, s3, s4, s5, s6, s7, s8, s9, s10, s11⟩
      go_simp
      with_reducible rfl
    rotate_left
    · simp only [Act.put, List.setIfInBounds_toArray, List.set_cons_zero, List.set_cons_succ, i64_w, i32_w]
      rfl
    refine pure_ (i := 6) (N := some 26) (v := ?_) (a' := ?_) #[true, true, true, false, true, true, true, false, true, false, false, false, false] rfl rfl (any_of HT_.out (by kernel_rfl)) (fun _ _ _ h => h) (Or.inl ⟨by rfl, ?_⟩) ?_ ?_
    rotate_left
    · intro w'
      go_simp
      with_reducible rfl
    rotate_left
    · simp only [Act.put, List.setIfInBounds_toArray, List.set_cons_zero, List.set_cons_succ, i64_w, i32_w]
      rfl
    refine take_ (i := 9) (N := some 29) (v := ?_) (a' := ?_) #[true, true, true, false, true, true, true, false, true, true, false, false, false] rfl rfl (take_ofW HT_.out HW_.out (by kernel_rfl)) (fun _ _ _ h => h) (Or.inl ⟨by rfl, ?_⟩) hHeld ?_ ?_
    rotate_left
    · rintro w' ⟨s0, s1, s2, s3, s4, s5, s6, s7, s8, s9, s10, s11⟩
      go_simp
      with_reducible rfl
    rotate_left
    · simp only [Act.put, List.setIfInBounds_toArray, List.set_cons_zero, List.set_cons_succ, i64_w, i32_w]
      rfl
    refine pure_ (i := 10) (N := some 30) (v := ?_) (a' := ?_) #[true, true, true, false, true, true, true, false, true, true, true, false, false] rfl rfl (any_of HT_.out (by kernel_rfl)) (fun _ _ _ h => h) (Or.inl ⟨by rfl, ?_⟩) ?_ ?_
    rotate_left
    · intro w'
      go_simp
      with_reducible rfl
    rotate_left
    · simp only [Act.put, List.setIfInBounds_toArray, List.set_cons_zero, List.set_cons_succ, i64_w, i32_w]
      rfl
    refine one_ (i := 3) (N := some 23) #[true, true, true, true, true, true, true, false, true, true, true, false, false] rfl rfl (one_of HT_.out (by kernel_rfl)) (by decide) (fun K hK => ?_)
    refine goes_ Try.func16 (by kernel_rfl) rfl #[.slice none 0 0, .int .u64 (IntKind.u64.wrap (a0_0))] (by rfl) rfl rfl (by (try simp only [List.map_toArray, List.map_cons, List.map_nil]); first | done | rfl | (simp only [List.length_drop, List.length_take]; rfl)) ?_
    refine (num_Put.calls k (fun k_ => some k_ = (.slice none 0 0 : Value).ownBlock) (.slice none 0 0) ([] : List Int) (IntKind.u64.wrap (a0_0)) t126 w _ ?side1 ?side2 A5.out).mono ?_
    (case side1 => repeat (first | (with_reducible first | exact HB.out | apply below_alloc | apply pw_below_drewN | apply below_drew1 | refine below_set ?_ GE120.out) | exact HB.out))
    (case side2 => exact Kd.R_nil _ _ _ _ _)
    rintro e w15 ⟨v127, rfl, ho0, hb, hkp⟩
    refine ⟨_, rfl, ?_⟩
    have n0_ := Aside0.mk (blk_kept (by (with_reducible repeat (first | refine blk_drewN ?_ _ | refine blk_drew ?_ | refine blk_alloc ?_ _)); exact BK120.out) hkp (fun hs_ => (fun e_ => by simp [Value.ownBlock] at e_) hs_))
    have n1_ := Aside0.mk (Kd.R_mono (ok' := fun k_ => True) ho0 (fun k_ hk_ => trivial))
    have n2_ := Aside0.mk (hb)
    clear BK120
    clear HB
    have BK120 := n0_
    have HO128 := n1_
    have HB := n2_
    clear n0_ n1_ n2_
    (try clear hb)
    (try clear hkp)
    (try clear ho0)
    obtain ⟨Ao16, co16, eo16⟩ := Kd.R_slice HO128.out
    (first | subst eo16 | (injection eo16 with f1_ f2_ f3_; have f4_ := f1_.symm; have f5_ := f3_.symm; clear f1_ f2_ f3_; subst f4_; subst f5_))
    refine hK.out _ _ ⟨(blk_cell BK120.out 0).trans rfl, (blk_cell BK120.out 1).trans rfl, (blk_cell BK120.out 2).trans rfl, (blk_cell BK120.out 3).trans rfl, (blk_cell BK120.out 4).trans rfl, (blk_cell BK120.out 5).trans rfl, (blk_cell BK120.out 6).trans rfl, (blk_cell BK120.out 7).trans rfl, (blk_cell BK120.out 8).trans rfl, (blk_cell BK120.out 9).trans rfl, (blk_cell BK120.out 10).trans rfl, (blk_cell BK120.out 11).trans rfl⟩ (fun hHeld => ?_)
    clear hK K
    refine norm_ (a' := ?_) ?_ ?_
    rotate_left
    · show Act.put _ (some 23) _ = _
      simp only [Act.put, List.setIfInBounds_toArray, List.set_cons_zero, List.set_cons_succ, i64_w, i32_w]
      rfl
    refine one_ (i := 7) (N := some 27) #[true, true, true, true, true, true, true, true, true, true, true, false, false] rfl rfl (one_of HT_.out (by kernel_rfl)) (by decide) (fun K hK => ?_)
    refine goes_ Try.func16 (by kernel_rfl) rfl #[.slice Ao16 t126.length co16, .int .u64 (IntKind.u64.wrap (a0_1))] (by rfl) rfl rfl (by (try simp only [List.map_toArray, List.map_cons, List.map_nil]); first | done | rfl | (simp only [List.length_drop, List.length_take]; rfl)) ?_
    with_reducible refine (num_Put.calls k (fun k_ => some k_ = (.slice Ao16 t126.length co16 : Value).ownBlock) (.slice Ao16 t126.length co16) t126 (IntKind.u64.wrap (a0_1)) t129 w _ ?side1 ?side2 A6.out).mono ?_
    (case side1 => repeat (first | (with_reducible first | exact HB.out | apply below_alloc | apply pw_below_drewN | apply below_drew1 | refine below_set ?_ GE120.out) | exact HB.out))
    (case side2 => exact Kd.R_tight rfl HO128.out)
    rintro e w17 ⟨v130, rfl, ho0, hb, hkp⟩
    refine ⟨_, rfl, ?_⟩
    have n0_ := Aside0.mk (blk_kept (by (with_reducible repeat (first | refine blk_drewN ?_ _ | refine blk_drew ?_ | refine blk_alloc ?_ _)); exact BK120.out) hkp (fun hs_ => (fun e_ => (Kd.R_ne HO128.out BK120.out (by decide)) e_) hs_))
    have n1_ := Aside0.mk (Kd.R_mono (ok' := fun k_ => True) ho0 (fun k_ hk_ => trivial))
    have n2_ := Aside0.mk (hb)
    clear BK120
    clear HB
    clear HO128
    have BK120 := n0_
    have HO131 := n1_
    have HB := n2_
    clear n0_ n1_ n2_
    (try clear hb)
    (try clear hkp)
    (try clear ho0)
    obtain ⟨Ao18, co18, eo18⟩ := Kd.R_slice HO131.out
    (first | subst eo18 | (injection eo18 with f1_ f2_ f3_; have f4_ := f1_.symm; have f5_ := f3_.symm; clear f1_ f2_ f3_; subst f4_; subst f5_))
    refine hK.out _ _ ⟨(blk_cell BK120.out 0).trans rfl, (blk_cell BK120.out 1).trans rfl, (blk_cell BK120.out 2).trans rfl, (blk_cell BK120.out 3).trans rfl, (blk_cell BK120.out 4).trans rfl, (blk_cell BK120.out 5).trans rfl, (blk_cell BK120.out 6).trans rfl, (blk_cell BK120.out 7).trans rfl, (blk_cell BK120.out 8).trans rfl, (blk_cell BK120.out 9).trans rfl, (blk_cell BK120.out 10).trans rfl, (blk_cell BK120.out 11).trans rfl⟩ (fun hHeld => ?_)
    clear hK K
    refine norm_ (a' := ?_) ?_ ?_
    rotate_left
    · show Act.put _ (some 27) _ = _
      simp only [Act.put, List.setIfInBounds_toArray, List.set_cons_zero, List.set_cons_succ, i64_w, i32_w]
      rfl
    refine one_ (i := 11) (N := some 31) #[true, true, true, true, true, true, true, true, true, true, true, true, false] rfl rfl (one_of HT_.out (by kernel_rfl)) (by decide) (fun K hK => ?_)
    refine goes_ Try.func16 (by kernel_rfl) rfl #[.slice Ao18 t129.length co18, .int .u64 (IntKind.u64.wrap (a0_2))] (by rfl) rfl rfl (by (try simp only [List.map_toArray, List.map_cons, List.map_nil]); first | done | rfl | (simp only [List.length_drop, List.length_take]; rfl)) ?_
    with_reducible refine (num_Put.calls k (fun k_ => some k_ = (.slice Ao18 t129.length co18 : Value).ownBlock) (.slice Ao18 t129.length co18) t129 (IntKind.u64.wrap (a0_2)) t132 w _ ?side1 ?side2 A7.out).mono ?_
    (case side1 => repeat (first | (with_reducible first | exact HB.out | apply below_alloc | apply pw_below_drewN | apply below_drew1 | refine below_set ?_ GE120.out) | exact HB.out))
    (case side2 => exact Kd.R_tight rfl HO131.out)
    rintro e w19 ⟨v133, rfl, ho0, hb, hkp⟩
    refine ⟨_, rfl, ?_⟩
    have n0_ := Aside0.mk (blk_kept (by (with_reducible repeat (first | refine blk_drewN ?_ _ | refine blk_drew ?_ | refine blk_alloc ?_ _)); exact BK120.out) hkp (fun hs_ => (fun e_ => (Kd.R_ne HO131.out BK120.out (by decide)) e_) hs_))
    have n1_ := Aside0.mk (Kd.R_mono (ok' := fun k_ => True) ho0 (fun k_ hk_ => trivial))
    have n2_ := Aside0.mk (hb)
    clear BK120
    clear HB
    clear HO131
    have BK120 := n0_
    have HO134 := n1_
    have HB := n2_
    clear n0_ n1_ n2_
    (try clear hb)
    (try clear hkp)
    (try clear ho0)
    refine hK.out _ _ ⟨(blk_cell BK120.out 0).trans rfl, (blk_cell BK120.out 1).trans rfl, (blk_cell BK120.out 2).trans rfl, (blk_cell BK120.out 3).trans rfl, (blk_cell BK120.out 4).trans rfl, (blk_cell BK120.out 5).trans rfl, (blk_cell BK120.out 6).trans rfl, (blk_cell BK120.out 7).trans rfl, (blk_cell BK120.out 8).trans rfl, (blk_cell BK120.out 9).trans rfl, (blk_cell BK120.out 10).trans rfl, (blk_cell BK120.out 11).trans rfl⟩ (fun hHeld => ?_)
    clear hK K
    refine norm_ (a' := ?_) ?_ ?_
    rotate_left
    · show Act.put _ (some 31) _ = _
      simp only [Act.put, List.setIfInBounds_toArray, List.set_cons_zero, List.set_cons_succ, i64_w, i32_w]
      rfl
    refine pure_ (i := 12) (N := some 8) (v := ?_) (a' := ?_) #[true, true, true, true, true, true, true, true, true, true, true, true, true] rfl rfl (any_of HT_.out (by kernel_rfl)) (fun _ _ _ h => h) (Or.inl ⟨by rfl, ?_⟩) ?_ ?_
    rotate_left
    · intro w'
      go_simp
      with_reducible rfl
    rotate_left
    · simp only [Act.put, List.setIfInBounds_toArray, List.set_cons_zero, List.set_cons_succ, i64_w, i32_w]
      rfl
    refine done_ (done_of HT_.out (by kernel_rfl)) ?_
    have hcz20_0 : w19.cell? ⟨gb120, 0, none⟩ = some (.int .i64 a0_0) := (blk_cell BK120.out 0).trans rfl
    have hcz20_1 : w19.cell? ⟨gb120, 1, none⟩ = some (.int .i64 a0_1) := (blk_cell BK120.out 1).trans rfl
    have hcz20_2 : w19.cell? ⟨gb120, 2, none⟩ = some (.int .i64 a0_2) := (blk_cell BK120.out 2).trans rfl
    have hcz20_3 : w19.cell? ⟨gb120, 3, none⟩ = some (.int .u64 a0_3) := (blk_cell BK120.out 3).trans rfl
    have hcz20_4 : w19.cell? ⟨gb120, 4, none⟩ = some (.int .i64 a0_4) := (blk_cell BK120.out 4).trans rfl
    have hcz20_5 : w19.cell? ⟨gb120, 5, none⟩ = some (.int .u64 a0_5) := (blk_cell BK120.out 5).trans rfl
    have hcz20_6 : w19.cell? ⟨gb120, 6, none⟩ = some (.int .i64 a0_6) := (blk_cell BK120.out 6).trans rfl
    have hcz20_7 : w19.cell? ⟨gb120, 7, none⟩ = some (.int .i64 a0_7) := (blk_cell BK120.out 7).trans rfl
    have hcz20_8 : w19.cell? ⟨gb120, 8, none⟩ = some (.string a0_8) := (blk_cell BK120.out 8).trans rfl
    have hcz20_9 : w19.cell? ⟨gb120, 9, none⟩ = some (.string a0_9) := (blk_cell BK120.out 9).trans rfl
    have hcz20_10 : w19.cell? ⟨gb120, 10, none⟩ = some (.bool a0_10) := (blk_cell BK120.out 10).trans rfl
    have hcz20_11 : w19.cell? ⟨gb120, 11, none⟩ = some (.int .i64 a0_11) := (blk_cell BK120.out 11).trans rfl
    have hfz20_0 := blk_frozen BK120.out 0
    have hfz20_1 := blk_frozen BK120.out 1
    have hfz20_2 := blk_frozen BK120.out 2
    have hfz20_3 := blk_frozen BK120.out 3
    have hfz20_4 := blk_frozen BK120.out 4
    have hfz20_5 := blk_frozen BK120.out 5
    have hfz20_6 := blk_frozen BK120.out 6
    have hfz20_7 := blk_frozen BK120.out 7
    have hfz20_8 := blk_frozen BK120.out 8
    have hfz20_9 := blk_frozen BK120.out 9
    have hfz20_10 := blk_frozen BK120.out 10
    have hfz20_11 := blk_frozen BK120.out 11
    obtain ⟨Ao21, co21, eo21⟩ := Kd.R_slice HO134.out
    subst eo21
    go_upto_if 36 with (first | ((with_reducible refine gate_callee (f := 19) rfl ?_); refine goesL_ (some 35) rfl rfl Try.func19 (by kernel_rfl) rfl #[.slice Ao21 t132.length co21, .agg #[.int .u64 a0_3, .int .i64 a0_4]] rfl (by (try simp only [List.map_toArray, List.map_cons, List.map_nil]); first | done | rfl | (simp only [List.length_drop, List.length_take]; rfl)) ?_; (with_reducible refine (num_Tid.calls k (fun k_ => some k_ = (.slice Ao21 t132.length co21 : Value).ownBlock) (.slice Ao21 t132.length co21) t132 a0_3 a0_4 t135 w _ ?side1 ?side2 A8.out).mono ?_); (case side1 => repeat (first | (with_reducible first | exact HB.out | apply below_alloc | apply pw_below_drewN | apply below_drew1 | refine below_set ?_ GE120.out) | exact HB.out)); (case side2 => exact Kd.R_tight rfl HO134.out); rintro e w22 ⟨v136, rfl, ho0, hb, hkp⟩; refine ⟨_, rfl, ?_⟩; have n0_ := Aside0.mk (blk_kept (by (with_reducible repeat (first | refine blk_drewN ?_ _ | refine blk_drew ?_ | refine blk_alloc ?_ _)); exact BK120.out) hkp (fun hs_ => (fun e_ => (Kd.R_ne HO134.out BK120.out (by decide)) e_) hs_)); have n1_ := Aside0.mk (Kd.R_mono (ok' := fun k_ => True) ho0 (fun k_ hk_ => trivial)); have n2_ := Aside0.mk (hb); clear BK120; clear HB; clear HO134; have BK120 := n0_; have HO137 := n1_; have HB := n2_; clear n0_ n1_ n2_; (try clear hb); (try clear hkp); (try clear ho0)))
    (try simp only [Act.put, List.setIfInBounds_toArray, List.set_cons_zero, List.set_cons_succ])
    go_cut [8] (fun v8 wc => ∃ (kq : Nat) (x8_8 : List Int), Aside0 (msg_Encode.j0 kq t123 t124 t125 x8_8 a0_0 a0_1 a0_2 a0_3 a0_4 a0_5 a0_6 a0_7 a0_8 a0_9 a0_10 a0_11 = some (r1, r2)) ∧ Aside0 (kq ≤ k) ∧ Aside0 (Kd.R (Kd.int .u8) 5 wc w.heap.size (fun _ => True) v8 x8_8) ∧ Aside0 (wc.heap[gb120]? = some (.cells #[.int .i64 a0_0, .int .i64 a0_1, .int .i64 a0_2, .int .u64 a0_3, .int .i64 a0_4, .int .u64 a0_5, .int .i64 a0_6, .int .i64 a0_7, .string a0_8, .string a0_9, .bool a0_10, .int .i64 a0_11] 47 (0, 0))) ∧ Aside0 (Below w.heap.size w wc))
    case first =>
      have H := HC9.out
      clear HC9
      by_cases c23 : t122 = true
      · subst c23
        have H1 : ((num_Put.f k t135 a0_5).bind fun t138 => (msg_Encode.j0 k t123 t124 t125 t138 a0_0 a0_1 a0_2 a0_3 a0_4 a0_5 a0_6 a0_7 a0_8 a0_9 a0_10 a0_11)) = some (r1, r2) := by rw [if_pos rfl] at H; exact H
        clear H
        have H := H1
        clear H1
        replace H := Option.bind_eq_some_iff.mp H
        obtain ⟨t138, A240, H⟩ := H
        replace H : (msg_Encode.j0 k t123 t124 t125 t138 a0_0 a0_1 a0_2 a0_3 a0_4 a0_5 a0_6 a0_7 a0_8 a0_9 a0_10 a0_11) = some (r1, r2) := H
        have A24 := Aside0.mk A240
        clear A240
        have H' := Aside0.mk H
        clear H
        have hcz25_0 : w22.cell? ⟨gb120, 0, none⟩ = some (.int .i64 a0_0) := (blk_cell BK120.out 0).trans rfl
        have hcz25_1 : w22.cell? ⟨gb120, 1, none⟩ = some (.int .i64 a0_1) := (blk_cell BK120.out 1).trans rfl
        have hcz25_2 : w22.cell? ⟨gb120, 2, none⟩ = some (.int .i64 a0_2) := (blk_cell BK120.out 2).trans rfl
        have hcz25_3 : w22.cell? ⟨gb120, 3, none⟩ = some (.int .u64 a0_3) := (blk_cell BK120.out 3).trans rfl
        have hcz25_4 : w22.cell? ⟨gb120, 4, none⟩ = some (.int .i64 a0_4) := (blk_cell BK120.out 4).trans rfl
        have hcz25_5 : w22.cell? ⟨gb120, 5, none⟩ = some (.int .u64 a0_5) := (blk_cell BK120.out 5).trans rfl
        have hcz25_6 : w22.cell? ⟨gb120, 6, none⟩ = some (.int .i64 a0_6) := (blk_cell BK120.out 6).trans rfl
        have hcz25_7 : w22.cell? ⟨gb120, 7, none⟩ = some (.int .i64 a0_7) := (blk_cell BK120.out 7).trans rfl
        have hcz25_8 : w22.cell? ⟨gb120, 8, none⟩ = some (.string a0_8) := (blk_cell BK120.out 8).trans rfl
        have hcz25_9 : w22.cell? ⟨gb120, 9, none⟩ = some (.string a0_9) := (blk_cell BK120.out 9).trans rfl
        have hcz25_10 : w22.cell? ⟨gb120, 10, none⟩ = some (.bool a0_10) := (blk_cell BK120.out 10).trans rfl
        have hcz25_11 : w22.cell? ⟨gb120, 11, none⟩ = some (.int .i64 a0_11) := (blk_cell BK120.out 11).trans rfl
        have hfz25_0 := blk_frozen BK120.out 0
        have hfz25_1 := blk_frozen BK120.out 1
        have hfz25_2 := blk_frozen BK120.out 2
        have hfz25_3 := blk_frozen BK120.out 3
        have hfz25_4 := blk_frozen BK120.out 4
        have hfz25_5 := blk_frozen BK120.out 5
        have hfz25_6 := blk_frozen BK120.out 6
        have hfz25_7 := blk_frozen BK120.out 7
        have hfz25_8 := blk_frozen BK120.out 8
        have hfz25_9 := blk_frozen BK120.out 9
        have hfz25_10 := blk_frozen BK120.out 10
        have hfz25_11 := blk_frozen BK120.out 11
        obtain ⟨Ao26, co26, eo26⟩ := Kd.R_slice HO137.out
        subst eo26
        go_wp2_with (first | ((with_reducible refine gate_callee (f := 16) rfl ?_); refine goesL_ (some 40) rfl rfl Try.func16 (by kernel_rfl) rfl #[.slice Ao26 t135.length co26, .int .u64 a0_5] rfl (by (try simp only [List.map_toArray, List.map_cons, List.map_nil]); first | done | rfl | (simp only [List.length_drop, List.length_take]; rfl)) ?_; (with_reducible refine (num_Put.calls k (fun k_ => some k_ = (.slice Ao26 t135.length co26 : Value).ownBlock) (.slice Ao26 t135.length co26) t135 a0_5 t138 w _ ?side1 ?side2 A24.out).mono ?_); (case side1 => repeat (first | (with_reducible first | exact HB.out | apply below_alloc | apply pw_below_drewN | apply below_drew1 | refine below_set ?_ GE120.out) | exact HB.out)); (case side2 => exact Kd.R_tight rfl HO137.out); rintro e w27 ⟨v139, rfl, ho0, hb, hkp⟩; refine ⟨_, rfl, ?_⟩; have n0_ := Aside0.mk (blk_kept (by (with_reducible repeat (first | refine blk_drewN ?_ _ | refine blk_drew ?_ | refine blk_alloc ?_ _)); exact BK120.out) hkp (fun hs_ => (fun e_ => (Kd.R_ne HO137.out BK120.out (by decide)) e_) hs_)); have n1_ := Aside0.mk (Kd.R_mono (ok' := fun k_ => True) ho0 (fun k_ hk_ => trivial)); have n2_ := Aside0.mk (hb); clear BK120; clear HB; clear HO137; have BK120 := n0_; have HO140 := n1_; have HB := n2_; clear n0_ n1_ n2_; (try clear hb); (try clear hkp); (try clear ho0)))
        go_meet
        case rel => exact ⟨_, (t138), H', ⟨by first | omega | exact Nat.le_refl _⟩, ⟨by (with_reducible repeat (first | apply Kd.R_alloc | apply Kd.R_drewN | apply Kd.R_drew)); exact HO140.out⟩, ⟨by (with_reducible repeat (first | refine blk_drewN ?_ _ | refine blk_drew ?_ | refine blk_alloc ?_ _)); exact BK120.out⟩, ⟨by repeat (first | (with_reducible first | exact HB.out | apply below_alloc | apply pw_below_drewN | apply below_drew1 | refine below_set ?_ GE120.out) | exact HB.out)⟩⟩
      · replace c23 := Bool.eq_false_iff.mpr c23
        subst c23
        have H1 : (msg_Encode.j0 k t123 t124 t125 t135 a0_0 a0_1 a0_2 a0_3 a0_4 a0_5 a0_6 a0_7 a0_8 a0_9 a0_10 a0_11) = some (r1, r2) := by rw [if_neg (show ¬ (false = true) by decide)] at H; exact H
        clear H
        have H := H1
        clear H1
        have H' := Aside0.mk H
        clear H
        go_wp2
        go_meet
        case rel => exact ⟨_, (t135), H', ⟨by first | omega | exact Nat.le_refl _⟩, ⟨by (with_reducible repeat (first | apply Kd.R_alloc | apply Kd.R_drewN | apply Kd.R_drew)); exact HO137.out⟩, ⟨by (with_reducible repeat (first | refine blk_drewN ?_ _ | refine blk_drew ?_ | refine blk_alloc ?_ _)); exact BK120.out⟩, ⟨by repeat (first | (with_reducible first | exact HB.out | apply below_alloc | apply pw_below_drewN | apply below_drew1 | refine below_set ?_ GE120.out) | exact HB.out)⟩⟩
    case rest =>
      clear HC9
      try clear c1
      try clear c2
      try clear p2
      try clear c3
      try clear c16
      try clear c19
      try clear c23
      try clear hcz11_0
      try clear hcz11_1
      try clear hcz11_10
      try clear hcz11_11
      try clear hcz11_2
      try clear hcz11_3
      try clear hcz11_4
      try clear hcz11_5
      try clear hcz11_6
      try clear hcz11_7
      try clear hcz11_8
      try clear hcz11_9
      try clear hcz13_0
      try clear hcz13_1
      try clear hcz13_10
      try clear hcz13_11
      try clear hcz13_2
      try clear hcz13_3
      try clear hcz13_4
      try clear hcz13_5
      try clear hcz13_6
      try clear hcz13_7
      try clear hcz13_8
      try clear hcz13_9
      try clear hcz20_0
      try clear hcz20_1
      try clear hcz20_10
      try clear hcz20_11
      try clear hcz20_2
      try clear hcz20_3
      try clear hcz20_4
      try clear hcz20_5
      try clear hcz20_6
      try clear hcz20_7
      try clear hcz20_8
      try clear hcz20_9
      try clear hcz25_0
      try clear hcz25_1
      try clear hcz25_10
      try clear hcz25_11
      try clear hcz25_2
      try clear hcz25_3
      try clear hcz25_4
      try clear hcz25_5
      try clear hcz25_6
      try clear hcz25_7
      try clear hcz25_8
      try clear hcz25_9
      try clear hfz11_0
      try clear hfz11_1
      try clear hfz11_10
      try clear hfz11_11
      try clear hfz11_2
      try clear hfz11_3
      try clear hfz11_4
      try clear hfz11_5
      try clear hfz11_6
      try clear hfz11_7
      try clear hfz11_8
      try clear hfz11_9
      try clear hfz13_0
      try clear hfz13_1
      try clear hfz13_10
      try clear hfz13_11
      try clear hfz13_2
      try clear hfz13_3
      try clear hfz13_4
      try clear hfz13_5
      try clear hfz13_6
      try clear hfz13_7
      try clear hfz13_8
      try clear hfz13_9
      try clear hfz20_0
      try clear hfz20_1
      try clear hfz20_10
      try clear hfz20_11
      try clear hfz20_2
      try clear hfz20_3
      try clear hfz20_4
      try clear hfz20_5
      try clear hfz20_6
      try clear hfz20_7
      try clear hfz20_8
      try clear hfz20_9
      try clear hfz25_0
      try clear hfz25_1
      try clear hfz25_10
      try clear hfz25_11
      try clear hfz25_2
      try clear hfz25_3
      try clear hfz25_4
      try clear hfz25_5
      try clear hfz25_6
      try clear hfz25_7
      try clear hfz25_8
      try clear hfz25_9
      obtain ⟨kq, x8_8, HA, HJ8, HO_8, BK120, HB⟩ := hcut
      cases kq with
      | zero => exact absurd HA.out (by simp [msg_Encode.j0])
      | succ kj8 =>
        have H := HA.out
        clear HA
        simp only [msg_Encode.j0] at H
        have HC28 := Aside0.mk H
        clear H
        go_upto_if 41 with (fail)
        go_cut [8] (fun v8 wc => ∃ (kq : Nat) (x8_27 : List Int), Aside0 (msg_Encode.j1 kq t124 t125 x8_27 a0_0 a0_1 a0_2 a0_3 a0_4 a0_5 a0_6 a0_7 a0_8 a0_9 a0_10 a0_11 = some (r1, r2)) ∧ Aside0 (kq ≤ kj8) ∧ Aside0 (Kd.R (Kd.int .u8) 5 wc w.heap.size (fun _ => True) v8 x8_27) ∧ Aside0 (wc.heap[gb120]? = some (.cells #[.int .i64 a0_0, .int .i64 a0_1, .int .i64 a0_2, .int .u64 a0_3, .int .i64 a0_4, .int .u64 a0_5, .int .i64 a0_6, .int .i64 a0_7, .string a0_8, .string a0_9, .bool a0_10, .int .i64 a0_11] 47 (0, 0))) ∧ Aside0 (Below w.heap.size w wc))
        case first =>
          have H := HC28.out
          clear HC28
          by_cases c29 : t123 = true
          · subst c29
            have H1 : ((num_Put.f kj8 x8_8 (IntKind.u64.wrap (a0_6))).bind fun t141 => (msg_Encode.j1 kj8 t124 t125 t141 a0_0 a0_1 a0_2 a0_3 a0_4 a0_5 a0_6 a0_7 a0_8 a0_9 a0_10 a0_11)) = some (r1, r2) := by rw [if_pos rfl] at H; exact H
            clear H
            have H := H1
            clear H1
            replace H := Option.bind_eq_some_iff.mp H
            obtain ⟨t141, A300, H⟩ := H
            replace H : (msg_Encode.j1 kj8 t124 t125 t141 a0_0 a0_1 a0_2 a0_3 a0_4 a0_5 a0_6 a0_7 a0_8 a0_9 a0_10 a0_11) = some (r1, r2) := H
            have A30 := Aside0.mk A300
            clear A300
            have H' := Aside0.mk H
            clear H
            have hcz31_0 : wc.cell? ⟨gb120, 0, none⟩ = some (.int .i64 a0_0) := (blk_cell BK120.out 0).trans rfl
            have hcz31_1 : wc.cell? ⟨gb120, 1, none⟩ = some (.int .i64 a0_1) := (blk_cell BK120.out 1).trans rfl
            have hcz31_2 : wc.cell? ⟨gb120, 2, none⟩ = some (.int .i64 a0_2) := (blk_cell BK120.out 2).trans rfl
            have hcz31_3 : wc.cell? ⟨gb120, 3, none⟩ = some (.int .u64 a0_3) := (blk_cell BK120.out 3).trans rfl
            have hcz31_4 : wc.cell? ⟨gb120, 4, none⟩ = some (.int .i64 a0_4) := (blk_cell BK120.out 4).trans rfl
            have hcz31_5 : wc.cell? ⟨gb120, 5, none⟩ = some (.int .u64 a0_5) := (blk_cell BK120.out 5).trans rfl
            have hcz31_6 : wc.cell? ⟨gb120, 6, none⟩ = some (.int .i64 a0_6) := (blk_cell BK120.out 6).trans rfl
            have hcz31_7 : wc.cell? ⟨gb120, 7, none⟩ = some (.int .i64 a0_7) := (blk_cell BK120.out 7).trans rfl
            have hcz31_8 : wc.cell? ⟨gb120, 8, none⟩ = some (.string a0_8) := (blk_cell BK120.out 8).trans rfl
            have hcz31_9 : wc.cell? ⟨gb120, 9, none⟩ = some (.string a0_9) := (blk_cell BK120.out 9).trans rfl
            have hcz31_10 : wc.cell? ⟨gb120, 10, none⟩ = some (.bool a0_10) := (blk_cell BK120.out 10).trans rfl
            have hcz31_11 : wc.cell? ⟨gb120, 11, none⟩ = some (.int .i64 a0_11) := (blk_cell BK120.out 11).trans rfl
            have hfz31_0 := blk_frozen BK120.out 0
            have hfz31_1 := blk_frozen BK120.out 1
            have hfz31_2 := blk_frozen BK120.out 2
            have hfz31_3 := blk_frozen BK120.out 3
            have hfz31_4 := blk_frozen BK120.out 4
            have hfz31_5 := blk_frozen BK120.out 5
            have hfz31_6 := blk_frozen BK120.out 6
            have hfz31_7 := blk_frozen BK120.out 7
            have hfz31_8 := blk_frozen BK120.out 8
            have hfz31_9 := blk_frozen BK120.out 9
            have hfz31_10 := blk_frozen BK120.out 10
            have hfz31_11 := blk_frozen BK120.out 11
            obtain ⟨Ao32, co32, eo32⟩ := Kd.R_slice HO_8.out
            subst eo32
            go_wp2_with (first | ((with_reducible refine gate_callee (f := 16) rfl ?_); refine goesL_ (some 46) rfl rfl Try.func16 (by kernel_rfl) rfl #[.slice Ao32 x8_8.length co32, .int .u64 (IntKind.u64.wrap (a0_6))] rfl (by (try simp only [List.map_toArray, List.map_cons, List.map_nil]); first | done | rfl | (simp only [List.length_drop, List.length_take]; rfl)) ?_; (with_reducible refine (num_Put.calls kj8 (fun k_ => some k_ = (.slice Ao32 x8_8.length co32 : Value).ownBlock) (.slice Ao32 x8_8.length co32) x8_8 (IntKind.u64.wrap (a0_6)) t141 w _ ?side1 ?side2 A30.out).mono ?_); (case side1 => repeat (first | (with_reducible first | exact HB.out | apply below_alloc | apply pw_below_drewN | apply below_drew1 | refine below_set ?_ GE120.out) | exact HB.out)); (case side2 => exact Kd.R_tight rfl HO_8.out); rintro e w33 ⟨v142, rfl, ho0, hb, hkp⟩; refine ⟨_, rfl, ?_⟩; have n0_ := Aside0.mk (blk_kept (by (with_reducible repeat (first | refine blk_drewN ?_ _ | refine blk_drew ?_ | refine blk_alloc ?_ _)); exact BK120.out) hkp (fun hs_ => (fun e_ => (Kd.R_ne HO_8.out BK120.out (by decide)) e_) hs_)); have n1_ := Aside0.mk (Kd.R_mono (ok' := fun k_ => True) ho0 (fun k_ hk_ => trivial)); have n2_ := Aside0.mk (hb); clear BK120; clear HB; clear HO_8; have BK120 := n0_; have HO143 := n1_; have HB := n2_; clear n0_ n1_ n2_; (try clear hb); (try clear hkp); (try clear ho0)))
            go_meet
            case rel => exact ⟨_, (t141), H', ⟨by have := HJ8.out; first | omega | exact Nat.le_refl _⟩, ⟨by (with_reducible repeat (first | apply Kd.R_alloc | apply Kd.R_drewN | apply Kd.R_drew)); exact HO143.out⟩, ⟨by (with_reducible repeat (first | refine blk_drewN ?_ _ | refine blk_drew ?_ | refine blk_alloc ?_ _)); exact BK120.out⟩, ⟨by repeat (first | (with_reducible first | exact HB.out | apply below_alloc | apply pw_below_drewN | apply below_drew1 | refine below_set ?_ GE120.out) | exact HB.out)⟩⟩
          · replace c29 := Bool.eq_false_iff.mpr c29
            subst c29
            have H1 : (msg_Encode.j1 kj8 t124 t125 x8_8 a0_0 a0_1 a0_2 a0_3 a0_4 a0_5 a0_6 a0_7 a0_8 a0_9 a0_10 a0_11) = some (r1, r2) := by rw [if_neg (show ¬ (false = true) by decide)] at H; exact H
            clear H
            have H := H1
            clear H1
            have H' := Aside0.mk H
            clear H
            go_wp2
            go_meet
            case rel => exact ⟨_, (x8_8), H', ⟨by have := HJ8.out; first | omega | exact Nat.le_refl _⟩, ⟨by (with_reducible repeat (first | apply Kd.R_alloc | apply Kd.R_drewN | apply Kd.R_drew)); exact HO_8.out⟩, ⟨by (with_reducible repeat (first | refine blk_drewN ?_ _ | refine blk_drew ?_ | refine blk_alloc ?_ _)); exact BK120.out⟩, ⟨by repeat (first | (with_reducible first | exact HB.out | apply below_alloc | apply pw_below_drewN | apply below_drew1 | refine below_set ?_ GE120.out) | exact HB.out)⟩⟩
        case rest =>
          clear HC28
          try clear c1
          try clear c2
          try clear p2
          try clear c3
          try clear c16
          try clear c19
          try clear c23
          try clear c28
          try clear c29
          try clear c31
          try clear hcz11_0
          try clear hcz11_1
          try clear hcz11_10
          try clear hcz11_11
          try clear hcz11_2
          try clear hcz11_3
          try clear hcz11_4
          try clear hcz11_5
          try clear hcz11_6
          try clear hcz11_7
          try clear hcz11_8
          try clear hcz11_9
          try clear hcz13_0
          try clear hcz13_1
          try clear hcz13_10
          try clear hcz13_11
          try clear hcz13_2
          try clear hcz13_3
          try clear hcz13_4
          try clear hcz13_5
          try clear hcz13_6
          try clear hcz13_7
          try clear hcz13_8
          try clear hcz13_9
          try clear hcz20_0
          try clear hcz20_1
          try clear hcz20_10
          try clear hcz20_11
          try clear hcz20_2
          try clear hcz20_3
          try clear hcz20_4
          try clear hcz20_5
          try clear hcz20_6
          try clear hcz20_7
          try clear hcz20_8
          try clear hcz20_9
          try clear hcz25_0
          try clear hcz25_1
          try clear hcz25_10
          try clear hcz25_11
          try clear hcz25_2
          try clear hcz25_3
          try clear hcz25_4
          try clear hcz25_5
          try clear hcz25_6
          try clear hcz25_7
          try clear hcz25_8
          try clear hcz25_9
          try clear hcz31_0
          try clear hcz31_1
          try clear hcz31_10
          try clear hcz31_11
          try clear hcz31_2
          try clear hcz31_3
          try clear hcz31_4
          try clear hcz31_5
          try clear hcz31_6
          try clear hcz31_7
          try clear hcz31_8
          try clear hcz31_9
          try clear hfz11_0
          try clear hfz11_1
          try clear hfz11_10
          try clear hfz11_11
          try clear hfz11_2
          try clear hfz11_3
          try clear hfz11_4
          try clear hfz11_5
          try clear hfz11_6
          try clear hfz11_7
          try clear hfz11_8
          try clear hfz11_9
          try clear hfz13_0
          try clear hfz13_1
          try clear hfz13_10
          try clear hfz13_11
          try clear hfz13_2
          try clear hfz13_3
          try clear hfz13_4
          try clear hfz13_5
          try clear hfz13_6
          try clear hfz13_7
          try clear hfz13_8
          try clear hfz13_9
          try clear hfz20_0
          try clear hfz20_1
          try clear hfz20_10
          try clear hfz20_11
          try clear hfz20_2
          try clear hfz20_3
          try clear hfz20_4
          try clear hfz20_5
          try clear hfz20_6
          try clear hfz20_7
          try clear hfz20_8
          try clear hfz20_9
          try clear hfz25_0
          try clear hfz25_1
          try clear hfz25_10
          try clear hfz25_11
          try clear hfz25_2
          try clear hfz25_3
          try clear hfz25_4
          try clear hfz25_5
          try clear hfz25_6
          try clear hfz25_7
          try clear hfz25_8
          try clear hfz25_9
          try clear hfz31_0
          try clear hfz31_1
          try clear hfz31_10
          try clear hfz31_11
          try clear hfz31_2
          try clear hfz31_3
          try clear hfz31_4
          try clear hfz31_5
          try clear hfz31_6
          try clear hfz31_7
          try clear hfz31_8
          try clear hfz31_9
          try clear p2
          obtain ⟨kq, x8_27, HA, HJ27, HO_8, BK120, HB⟩ := hcut
          cases kq with
          | zero => exact absurd HA.out (by simp [msg_Encode.j1])
          | succ kj27 =>
            have H := HA.out
            clear HA
            simp only [msg_Encode.j1] at H
            have HC34 := Aside0.mk H
            clear H
            go_upto_if 47 with (fail)
            go_cut [8] (fun v8 wc => ∃ (kq : Nat) (x8_33 : List Int), Aside0 (msg_Encode.j2 kq t125 x8_33 a0_0 a0_1 a0_2 a0_3 a0_4 a0_5 a0_6 a0_7 a0_8 a0_9 a0_10 a0_11 = some (r1, r2)) ∧ Aside0 (kq ≤ kj27) ∧ Aside0 (Kd.R (Kd.int .u8) 5 wc w.heap.size (fun _ => True) v8 x8_33) ∧ Aside0 (wc.heap[gb120]? = some (.cells #[.int .i64 a0_0, .int .i64 a0_1, .int .i64 a0_2, .int .u64 a0_3, .int .i64 a0_4, .int .u64 a0_5, .int .i64 a0_6, .int .i64 a0_7, .string a0_8, .string a0_9, .bool a0_10, .int .i64 a0_11] 47 (0, 0))) ∧ Aside0 (Below w.heap.size w wc))
            case first =>
              have H := HC34.out
              clear HC34
              by_cases c35 : t124 = true
              · subst c35
                have H1 : ((num_Put.f kj27 x8_27 (IntKind.u64.wrap (a0_7))).bind fun t144 => ((num_Text.f kj27 t144 a0_8).bind fun t147 => ((num_Text.f kj27 t147 a0_9).bind fun t150 => (msg_Encode.j2 kj27 t125 t150 a0_0 a0_1 a0_2 a0_3 a0_4 a0_5 a0_6 a0_7 a0_8 a0_9 a0_10 a0_11)))) = some (r1, r2) := by rw [if_pos rfl] at H; exact H
                clear H
                have H := H1
                clear H1
                replace H := Option.bind_eq_some_iff.mp H
                obtain ⟨t144, A360, H⟩ := H
                replace H : ((num_Text.f kj27 t144 a0_8).bind fun t147 => ((num_Text.f kj27 t147 a0_9).bind fun t150 => (msg_Encode.j2 kj27 t125 t150 a0_0 a0_1 a0_2 a0_3 a0_4 a0_5 a0_6 a0_7 a0_8 a0_9 a0_10 a0_11))) = some (r1, r2) := H
                have A36 := Aside0.mk A360
                clear A360
                replace H := Option.bind_eq_some_iff.mp H
                obtain ⟨t147, A370, H⟩ := H
                replace H : ((num_Text.f kj27 t147 a0_9).bind fun t150 => (msg_Encode.j2 kj27 t125 t150 a0_0 a0_1 a0_2 a0_3 a0_4 a0_5 a0_6 a0_7 a0_8 a0_9 a0_10 a0_11)) = some (r1, r2) := H
                have A37 := Aside0.mk A370
                clear A370
                replace H := Option.bind_eq_some_iff.mp H
                obtain ⟨t150, A380, H⟩ := H
                replace H : (msg_Encode.j2 kj27 t125 t150 a0_0 a0_1 a0_2 a0_3 a0_4 a0_5 a0_6 a0_7 a0_8 a0_9 a0_10 a0_11) = some (r1, r2) := H
                have A38 := Aside0.mk A380
                clear A380
                have H' := Aside0.mk H
                clear H
                try go_wp2
                have n0_ := Aside0.mk (Kd.R_drew HO_8.out)
                have n1_ := Aside0.mk (blk_drew BK120.out)
                have n2_ := Aside0.mk (below_drew1 HB.out)
                clear HO_8
                clear BK120
                clear HB
                have HO_8 := n0_
                have BK120 := n1_
                have HB := n2_
                clear n0_ n1_ n2_
                obtain ⟨Ao40, co40, eo40⟩ := Kd.R_slice HO_8.out
                (first | subst eo40 | (injection eo40 with f1_ f2_ f3_; have f4_ := f1_.symm; have f5_ := f3_.symm; clear f1_ f2_ f3_; subst f4_; subst f5_))
                refine start_ (n := 12) (S := fun w' => w'.cell? ⟨gb120, 0, none⟩ = some (.int .i64 a0_0) ∧ w'.cell? ⟨gb120, 1, none⟩ = some (.int .i64 a0_1) ∧ w'.cell? ⟨gb120, 2, none⟩ = some (.int .i64 a0_2) ∧ w'.cell? ⟨gb120, 3, none⟩ = some (.int .u64 a0_3) ∧ w'.cell? ⟨gb120, 4, none⟩ = some (.int .i64 a0_4) ∧ w'.cell? ⟨gb120, 5, none⟩ = some (.int .u64 a0_5) ∧ w'.cell? ⟨gb120, 6, none⟩ = some (.int .i64 a0_6) ∧ w'.cell? ⟨gb120, 7, none⟩ = some (.int .i64 a0_7) ∧ w'.cell? ⟨gb120, 8, none⟩ = some (.string a0_8) ∧ w'.cell? ⟨gb120, 9, none⟩ = some (.string a0_9) ∧ w'.cell? ⟨gb120, 10, none⟩ = some (.bool a0_10) ∧ w'.cell? ⟨gb120, 11, none⟩ = some (.int .i64 a0_11)) (ds := []) #[false, false, false, false, false, false, false, false, false, false, false, false] (by kernel_rfl) rfl rfl ⟨(blk_cell BK120.out 0).trans rfl, (blk_cell BK120.out 1).trans rfl, (blk_cell BK120.out 2).trans rfl, (blk_cell BK120.out 3).trans rfl, (blk_cell BK120.out 4).trans rfl, (blk_cell BK120.out 5).trans rfl, (blk_cell BK120.out 6).trans rfl, (blk_cell BK120.out 7).trans rfl, (blk_cell BK120.out 8).trans rfl, (blk_cell BK120.out 9).trans rfl, (blk_cell BK120.out 10).trans rfl, (blk_cell BK120.out 11).trans rfl⟩ (fun hHeld => ?_); refine with_tabW msg_Encode.tab11 msg_Encode.bits11 (fun HT_ HW_ => ?_)
                generalize wc.drew = w39 at HO_8 BK120 HB hHeld ⊢
                refine pure_ (i := 0) (N := some 48) (v := ?_) (a' := ?_) #[true, false, false, false, false, false, false, false, false, false, false, false] rfl rfl (any_of HT_.out (by kernel_rfl)) (fun _ _ _ h => h) (Or.inl ⟨by rfl, ?_⟩) ?_ ?_
                rotate_left
                · intro w'
                  go_simp
                  with_reducible rfl
                rotate_left
                · simp only [Act.put, List.setIfInBounds_toArray, List.set_cons_zero, List.set_cons_succ, i64_w, i32_w]
                  rfl
                refine pure_ (i := 1) (N := some 49) (v := ?_) (a' := ?_) #[true, true, false, false, false, false, false, false, false, false, false, false] rfl rfl (any_of HT_.out (by kernel_rfl)) (fun _ _ _ h => h) (Or.inl ⟨by rfl, ?_⟩) ?_ ?_
                rotate_left
                · intro w'
                  go_simp
                  with_reducible rfl
                rotate_left
                · simp only [Act.put, List.setIfInBounds_toArray, List.set_cons_zero, List.set_cons_succ, i64_w, i32_w]
                  rfl
                refine pure_ (i := 5) (N := some 53) (v := ?_) (a' := ?_) #[true, true, false, false, false, true, false, false, false, false, false, false] rfl rfl (any_of HT_.out (by kernel_rfl)) (fun _ _ _ h => h) (Or.inl ⟨by rfl, ?_⟩) ?_ ?_
                rotate_left
                · intro w'
                  go_simp
                  with_reducible rfl
                rotate_left
                · simp only [Act.put, List.setIfInBounds_toArray, List.set_cons_zero, List.set_cons_succ, i64_w, i32_w]
                  rfl
                refine pure_ (i := 8) (N := some 56) (v := ?_) (a' := ?_) #[true, true, false, false, false, true, false, false, true, false, false, false] rfl rfl (any_of HT_.out (by kernel_rfl)) (fun _ _ _ h => h) (Or.inl ⟨by rfl, ?_⟩) ?_ ?_
                rotate_left
                · intro w'
                  go_simp
                  with_reducible rfl
                rotate_left
                · simp only [Act.put, List.setIfInBounds_toArray, List.set_cons_zero, List.set_cons_succ, i64_w, i32_w]
                  rfl
                refine take_ (i := 2) (N := some 50) (v := ?_) (a' := ?_) #[true, true, true, false, false, true, false, false, true, false, false, false] rfl rfl (take_ofW HT_.out HW_.out (by kernel_rfl)) (fun _ _ _ h => h) (Or.inl ⟨by rfl, ?_⟩) hHeld ?_ ?_
                rotate_left
                · rintro w' ⟨s0, s1, s2, s3, s4, s5, s6, s7, s8, s9, s10, s11⟩
                  go_simp
                  with_reducible rfl
                rotate_left
                · simp only [Act.put, List.setIfInBounds_toArray, List.set_cons_zero, List.set_cons_succ, i64_w, i32_w]
                  rfl
                refine pure_ (i := 3) (N := some 51) (v := ?_) (a' := ?_) #[true, true, true, true, false, true, false, false, true, false, false, false] rfl rfl (any_of HT_.out (by kernel_rfl)) (fun _ _ _ h => h) (Or.inl ⟨by rfl, ?_⟩) ?_ ?_
                rotate_left
                · intro w'
                  go_simp
                  with_reducible rfl
                rotate_left
                · simp only [Act.put, List.setIfInBounds_toArray, List.set_cons_zero, List.set_cons_succ, i64_w, i32_w]
                  rfl
                refine take_ (i := 6) (N := some 54) (v := ?_) (a' := ?_) #[true, true, true, true, false, true, true, false, true, false, false, false] rfl rfl (take_ofW HT_.out HW_.out (by kernel_rfl)) (fun _ _ _ h => h) (Or.inl ⟨by rfl, ?_⟩) hHeld ?_ ?_
                rotate_left
                · rintro w' ⟨s0, s1, s2, s3, s4, s5, s6, s7, s8, s9, s10, s11⟩
                  go_simp
                  with_reducible rfl
                rotate_left
                · simp only [Act.put, List.setIfInBounds_toArray, List.set_cons_zero, List.set_cons_succ, i64_w, i32_w]
                  rfl
                refine take_ (i := 9) (N := some 57) (v := ?_) (a' := ?_) #[true, true, true, true, false, true, true, false, true, true, false, false] rfl rfl (take_ofW HT_.out HW_.out (by kernel_rfl)) (fun _ _ _ h => h) (Or.inl ⟨by rfl, ?_⟩) hHeld ?_ ?_
                rotate_left
                · rintro w' ⟨s0, s1, s2, s3, s4, s5, s6, s7, s8, s9, s10, s11⟩
                  go_simp
                  with_reducible rfl
                rotate_left
                · simp only [Act.put, List.setIfInBounds_toArray, List.set_cons_zero, List.set_cons_succ, i64_w, i32_w]
                  rfl
                refine one_ (i := 4) (N := some 52) #[true, true, true, true, true, true, true, false, true, true, false, false] rfl rfl (one_of HT_.out (by kernel_rfl)) (by decide) (fun K hK => ?_)
                refine goes_ Try.func16 (by kernel_rfl) rfl #[.slice Ao40 x8_27.length co40, .int .u64 (IntKind.u64.wrap (a0_7))] (by rfl) rfl rfl (by (try simp only [List.map_toArray, List.map_cons, List.map_nil]); first | done | rfl | (simp only [List.length_drop, List.length_take]; rfl)) ?_
                with_reducible refine (num_Put.calls kj27 (fun k_ => some k_ = (.slice Ao40 x8_27.length co40 : Value).ownBlock) (.slice Ao40 x8_27.length co40) x8_27 (IntKind.u64.wrap (a0_7)) t144 w _ ?side1 ?side2 A36.out).mono ?_
                (case side1 => repeat (first | (with_reducible first | exact HB.out | apply below_alloc | apply pw_below_drewN | apply below_drew1 | refine below_set ?_ GE120.out) | exact HB.out))
                (case side2 => exact Kd.R_tight rfl HO_8.out)
                rintro e w41 ⟨v145, rfl, ho0, hb, hkp⟩
                refine ⟨_, rfl, ?_⟩
                have n0_ := Aside0.mk (blk_kept (by (with_reducible repeat (first | refine blk_drewN ?_ _ | refine blk_drew ?_ | refine blk_alloc ?_ _)); exact BK120.out) hkp (fun hs_ => (fun e_ => (Kd.R_ne HO_8.out BK120.out (by decide)) e_) hs_))
                have n1_ := Aside0.mk (Kd.R_mono (ok' := fun k_ => True) ho0 (fun k_ hk_ => trivial))
                have n2_ := Aside0.mk (hb)
                clear BK120
                clear HB
                clear HO_8
                have BK120 := n0_
                have HO146 := n1_
                have HB := n2_
                clear n0_ n1_ n2_
                (try clear hb)
                (try clear hkp)
                (try clear ho0)
                obtain ⟨Ao42, co42, eo42⟩ := Kd.R_slice HO146.out
                (first | subst eo42 | (injection eo42 with f1_ f2_ f3_; have f4_ := f1_.symm; have f5_ := f3_.symm; clear f1_ f2_ f3_; subst f4_; subst f5_))
                refine hK.out _ _ ⟨(blk_cell BK120.out 0).trans rfl, (blk_cell BK120.out 1).trans rfl, (blk_cell BK120.out 2).trans rfl, (blk_cell BK120.out 3).trans rfl, (blk_cell BK120.out 4).trans rfl, (blk_cell BK120.out 5).trans rfl, (blk_cell BK120.out 6).trans rfl, (blk_cell BK120.out 7).trans rfl, (blk_cell BK120.out 8).trans rfl, (blk_cell BK120.out 9).trans rfl, (blk_cell BK120.out 10).trans rfl, (blk_cell BK120.out 11).trans rfl⟩ (fun hHeld => ?_)
                clear hK K
                refine norm_ (a' := ?_) ?_ ?_
                rotate_left
                · show Act.put _ (some 52) _ = _
                  simp only [Act.put, List.setIfInBounds_toArray, List.set_cons_zero, List.set_cons_succ, i64_w, i32_w]
                  rfl
                refine one_ (i := 7) (N := some 55) #[true, true, true, true, true, true, true, true, true, true, false, false] rfl rfl (one_of HT_.out (by kernel_rfl)) (by decide) (fun K hK => ?_)
                refine goes_ Try.func18 (by kernel_rfl) rfl #[.slice Ao42 t144.length co42, .string a0_8] (by rfl) rfl rfl (by (try simp only [List.map_toArray, List.map_cons, List.map_nil]); first | done | rfl | (simp only [List.length_drop, List.length_take]; rfl)) ?_
                with_reducible refine (num_Text.calls kj27 (fun k_ => some k_ = (.slice Ao42 t144.length co42 : Value).ownBlock) (.slice Ao42 t144.length co42) t144 a0_8 t147 w _ ?side1 ?side2 A37.out).mono ?_
                (case side1 => repeat (first | (with_reducible first | exact HB.out | apply below_alloc | apply pw_below_drewN | apply below_drew1 | refine below_set ?_ GE120.out) | exact HB.out))
                (case side2 => exact Kd.R_tight rfl HO146.out)
                rintro e w43 ⟨v148, rfl, ho0, hb, hkp⟩
                refine ⟨_, rfl, ?_⟩
                have n0_ := Aside0.mk (blk_kept (by (with_reducible repeat (first | refine blk_drewN ?_ _ | refine blk_drew ?_ | refine blk_alloc ?_ _)); exact BK120.out) hkp (fun hs_ => (fun e_ => (Kd.R_ne HO146.out BK120.out (by decide)) e_) hs_))
                have n1_ := Aside0.mk (Kd.R_mono (ok' := fun k_ => True) ho0 (fun k_ hk_ => trivial))
                have n2_ := Aside0.mk (hb)
                clear BK120
                clear HB
                clear HO146
                have BK120 := n0_
                have HO149 := n1_
                have HB := n2_
                clear n0_ n1_ n2_
                (try clear hb)
                (try clear hkp)
                (try clear ho0)
                obtain ⟨Ao44, co44, eo44⟩ := Kd.R_slice HO149.out
                (first | subst eo44 | (injection eo44 with f1_ f2_ f3_; have f4_ := f1_.symm; have f5_ := f3_.symm; clear f1_ f2_ f3_; subst f4_; subst f5_))
                refine hK.out _ _ ⟨(blk_cell BK120.out 0).trans rfl, (blk_cell BK120.out 1).trans rfl, (blk_cell BK120.out 2).trans rfl, (blk_cell BK120.out 3).trans rfl, (blk_cell BK120.out 4).trans rfl, (blk_cell BK120.out 5).trans rfl, (blk_cell BK120.out 6).trans rfl, (blk_cell BK120.out 7).trans rfl, (blk_cell BK120.out 8).trans rfl, (blk_cell BK120.out 9).trans rfl, (blk_cell BK120.out 10).trans rfl, (blk_cell BK120.out 11).trans rfl⟩ (fun hHeld => ?_)
                clear hK K
                refine norm_ (a' := ?_) ?_ ?_
                rotate_left
                · show Act.put _ (some 55) _ = _
                  simp only [Act.put, List.setIfInBounds_toArray, List.set_cons_zero, List.set_cons_succ, i64_w, i32_w]
                  rfl
                refine one_ (i := 10) (N := some 58) #[true, true, true, true, true, true, true, true, true, true, true, false] rfl rfl (one_of HT_.out (by kernel_rfl)) (by decide) (fun K hK => ?_)
                refine goes_ Try.func18 (by kernel_rfl) rfl #[.slice Ao44 t147.length co44, .string a0_9] (by rfl) rfl rfl (by (try simp only [List.map_toArray, List.map_cons, List.map_nil]); first | done | rfl | (simp only [List.length_drop, List.length_take]; rfl)) ?_
                with_reducible refine (num_Text.calls kj27 (fun k_ => some k_ = (.slice Ao44 t147.length co44 : Value).ownBlock) (.slice Ao44 t147.length co44) t147 a0_9 t150 w _ ?side1 ?side2 A38.out).mono ?_
                (case side1 => repeat (first | (with_reducible first | exact HB.out | apply below_alloc | apply pw_below_drewN | apply below_drew1 | refine below_set ?_ GE120.out) | exact HB.out))
                (case side2 => exact Kd.R_tight rfl HO149.out)
                rintro e w45 ⟨v151, rfl, ho0, hb, hkp⟩
                refine ⟨_, rfl, ?_⟩
                have n0_ := Aside0.mk (blk_kept (by (with_reducible repeat (first | refine blk_drewN ?_ _ | refine blk_drew ?_ | refine blk_alloc ?_ _)); exact BK120.out) hkp (fun hs_ => (fun e_ => (Kd.R_ne HO149.out BK120.out (by decide)) e_) hs_))
                have n1_ := Aside0.mk (Kd.R_mono (ok' := fun k_ => True) ho0 (fun k_ hk_ => trivial))
                have n2_ := Aside0.mk (hb)
                clear BK120
                clear HB
                clear HO149
                have BK120 := n0_
                have HO152 := n1_
                have HB := n2_
                clear n0_ n1_ n2_
                (try clear hb)
                (try clear hkp)
                (try clear ho0)
                refine hK.out _ _ ⟨(blk_cell BK120.out 0).trans rfl, (blk_cell BK120.out 1).trans rfl, (blk_cell BK120.out 2).trans rfl, (blk_cell BK120.out 3).trans rfl, (blk_cell BK120.out 4).trans rfl, (blk_cell BK120.out 5).trans rfl, (blk_cell BK120.out 6).trans rfl, (blk_cell BK120.out 7).trans rfl, (blk_cell BK120.out 8).trans rfl, (blk_cell BK120.out 9).trans rfl, (blk_cell BK120.out 10).trans rfl, (blk_cell BK120.out 11).trans rfl⟩ (fun hHeld => ?_)
                clear hK K
                refine norm_ (a' := ?_) ?_ ?_
                rotate_left
                · show Act.put _ (some 58) _ = _
                  simp only [Act.put, List.setIfInBounds_toArray, List.set_cons_zero, List.set_cons_succ, i64_w, i32_w]
                  rfl
                refine pure_ (i := 11) (N := some 8) (v := ?_) (a' := ?_) #[true, true, true, true, true, true, true, true, true, true, true, true] rfl rfl (any_of HT_.out (by kernel_rfl)) (fun _ _ _ h => h) (Or.inl ⟨by rfl, ?_⟩) ?_ ?_
                rotate_left
                · intro w'
                  go_simp
                  with_reducible rfl
                rotate_left
                · simp only [Act.put, List.setIfInBounds_toArray, List.set_cons_zero, List.set_cons_succ, i64_w, i32_w]
                  rfl
                refine done_ (done_of HT_.out (by kernel_rfl)) ?_
                try go_wp2
                go_meet
                case rel => exact ⟨_, (t150), H', ⟨by have := HJ8.out; have := HJ27.out; first | omega | exact Nat.le_refl _⟩, ⟨by (with_reducible repeat (first | apply Kd.R_alloc | apply Kd.R_drewN | apply Kd.R_drew)); exact HO152.out⟩, ⟨by (with_reducible repeat (first | refine blk_drewN ?_ _ | refine blk_drew ?_ | refine blk_alloc ?_ _)); exact BK120.out⟩, ⟨by repeat (first | (with_reducible first | exact HB.out | apply below_alloc | apply pw_below_drewN | apply below_drew1 | refine below_set ?_ GE120.out) | exact HB.out)⟩⟩
              · replace c35 := Bool.eq_false_iff.mpr c35
                subst c35
                have H1 : (msg_Encode.j2 kj27 t125 x8_27 a0_0 a0_1 a0_2 a0_3 a0_4 a0_5 a0_6 a0_7 a0_8 a0_9 a0_10 a0_11) = some (r1, r2) := by rw [if_neg (show ¬ (false = true) by decide)] at H; exact H
                clear H
                have H := H1
                clear H1
                have H' := Aside0.mk H
                clear H
                go_wp2
                go_meet
                case rel => exact ⟨_, (x8_27), H', ⟨by have := HJ8.out; have := HJ27.out; first | omega | exact Nat.le_refl _⟩, ⟨by (with_reducible repeat (first | apply Kd.R_alloc | apply Kd.R_drewN | apply Kd.R_drew)); exact HO_8.out⟩, ⟨by (with_reducible repeat (first | refine blk_drewN ?_ _ | refine blk_drew ?_ | refine blk_alloc ?_ _)); exact BK120.out⟩, ⟨by repeat (first | (with_reducible first | exact HB.out | apply below_alloc | apply pw_below_drewN | apply below_drew1 | refine below_set ?_ GE120.out) | exact HB.out)⟩⟩
            case rest =>
              clear HC34
              try clear c1
              try clear c2
              try clear p2
              try clear c3
              try clear c16
              try clear c18
              try clear c19
              try clear c23
              try clear c28
              try clear c29
              try clear c31
              try clear c35
              try clear hcz11_0
              try clear hcz11_1
              try clear hcz11_10
              try clear hcz11_11
              try clear hcz11_2
              try clear hcz11_3
              try clear hcz11_4
              try clear hcz11_5
              try clear hcz11_6
              try clear hcz11_7
              try clear hcz11_8
              try clear hcz11_9
              try clear hcz13_0
              try clear hcz13_1
              try clear hcz13_10
              try clear hcz13_11
              try clear hcz13_2
              try clear hcz13_3
              try clear hcz13_4
              try clear hcz13_5
              try clear hcz13_6
              try clear hcz13_7
              try clear hcz13_8
              try clear hcz13_9
              try clear hcz20_0
              try clear hcz20_1
              try clear hcz20_10
              try clear hcz20_11
              try clear hcz20_2
              try clear hcz20_3
              try clear hcz20_4
              try clear hcz20_5
              try clear hcz20_6
              try clear hcz20_7
              try clear hcz20_8
              try clear hcz20_9
              try clear hcz25_0
              try clear hcz25_1
              try clear hcz25_10
              try clear hcz25_11
              try clear hcz25_2
              try clear hcz25_3
              try clear hcz25_4
              try clear hcz25_5
              try clear hcz25_6
              try clear hcz25_7
              try clear hcz25_8
              try clear hcz25_9
              try clear hcz31_0
              try clear hcz31_1
              try clear hcz31_10
              try clear hcz31_11
              try clear hcz31_2
              try clear hcz31_3
              try clear hcz31_4
              try clear hcz31_5
              try clear hcz31_6
              try clear hcz31_7
              try clear hcz31_8
              try clear hcz31_9
              try clear hfz11_0
              try clear hfz11_1
              try clear hfz11_10
              try clear hfz11_11
              try clear hfz11_2
              try clear hfz11_3
              try clear hfz11_4
              try clear hfz11_5
              try clear hfz11_6
              try clear hfz11_7
              try clear hfz11_8
              try clear hfz11_9
              try clear hfz13_0
              try clear hfz13_1
              try clear hfz13_10
              try clear hfz13_11
              try clear hfz13_2
              try clear hfz13_3
              try clear hfz13_4
              try clear hfz13_5
              try clear hfz13_6
              try clear hfz13_7
              try clear hfz13_8
              try clear hfz13_9
              try clear hfz20_0
              try clear hfz20_1
              try clear hfz20_10
              try clear hfz20_11
              try clear hfz20_2
              try clear hfz20_3
              try clear hfz20_4
              try clear hfz20_5
              try clear hfz20_6
              try clear hfz20_7
              try clear hfz20_8
              try clear hfz20_9
              try clear hfz25_0
              try clear hfz25_1
              try clear hfz25_10
              try clear hfz25_11
              try clear hfz25_2
              try clear hfz25_3
              try clear hfz25_4
              try clear hfz25_5
              try clear hfz25_6
              try clear hfz25_7
              try clear hfz25_8
              try clear hfz25_9
              try clear hfz31_0
              try clear hfz31_1
              try clear hfz31_10
              try clear hfz31_11
              try clear hfz31_2
              try clear hfz31_3
              try clear hfz31_4
              try clear hfz31_5
              try clear hfz31_6
              try clear hfz31_7
              try clear hfz31_8
              try clear hfz31_9
              try clear p2
              obtain ⟨kq, x8_33, HA, HJ33, HO_8, BK120, HB⟩ := hcut
              cases kq with
              | zero => exact absurd HA.out (by simp [msg_Encode.j2])
              | succ kj33 =>
                have H := HA.out
                clear HA
                simp only [msg_Encode.j2] at H
                have HC46 := Aside0.mk H
                clear H
                go_upto_if 59 with (fail)
                go_cut [8] (fun v8 wc => ∃ (kq : Nat) (x8_45 : List Int), Aside0 (msg_Encode.j3 kq x8_45 a0_0 a0_1 a0_2 a0_3 a0_4 a0_5 a0_6 a0_7 a0_8 a0_9 a0_10 a0_11 = some (r1, r2)) ∧ Aside0 (kq ≤ kj33) ∧ Aside0 (Kd.R (Kd.int .u8) 5 wc w.heap.size (fun _ => True) v8 x8_45) ∧ Aside0 (wc.heap[gb120]? = some (.cells #[.int .i64 a0_0, .int .i64 a0_1, .int .i64 a0_2, .int .u64 a0_3, .int .i64 a0_4, .int .u64 a0_5, .int .i64 a0_6, .int .i64 a0_7, .string a0_8, .string a0_9, .bool a0_10, .int .i64 a0_11] 47 (0, 0))) ∧ Aside0 (Below w.heap.size w wc))
                case first =>
                  have H := HC46.out
                  clear HC46
                  by_cases c47 : t125 = true
                  · subst c47
                    have H1 : ((num_Put.f kj33 x8_33 (IntKind.u64.wrap (a0_11))).bind fun t153 => (msg_Encode.j3 kj33 t153 a0_0 a0_1 a0_2 a0_3 a0_4 a0_5 a0_6 a0_7 a0_8 a0_9 a0_10 a0_11)) = some (r1, r2) := by rw [if_pos rfl] at H; exact H
                    clear H
                    have H := H1
                    clear H1
                    replace H := Option.bind_eq_some_iff.mp H
                    obtain ⟨t153, A480, H⟩ := H
                    replace H : (msg_Encode.j3 kj33 t153 a0_0 a0_1 a0_2 a0_3 a0_4 a0_5 a0_6 a0_7 a0_8 a0_9 a0_10 a0_11) = some (r1, r2) := H
                    have A48 := Aside0.mk A480
                    clear A480
                    have H' := Aside0.mk H
                    clear H
                    have hcz49_0 : wc.cell? ⟨gb120, 0, none⟩ = some (.int .i64 a0_0) := (blk_cell BK120.out 0).trans rfl
                    have hcz49_1 : wc.cell? ⟨gb120, 1, none⟩ = some (.int .i64 a0_1) := (blk_cell BK120.out 1).trans rfl
                    have hcz49_2 : wc.cell? ⟨gb120, 2, none⟩ = some (.int .i64 a0_2) := (blk_cell BK120.out 2).trans rfl
                    have hcz49_3 : wc.cell? ⟨gb120, 3, none⟩ = some (.int .u64 a0_3) := (blk_cell BK120.out 3).trans rfl
                    have hcz49_4 : wc.cell? ⟨gb120, 4, none⟩ = some (.int .i64 a0_4) := (blk_cell BK120.out 4).trans rfl
                    have hcz49_5 : wc.cell? ⟨gb120, 5, none⟩ = some (.int .u64 a0_5) := (blk_cell BK120.out 5).trans rfl
                    have hcz49_6 : wc.cell? ⟨gb120, 6, none⟩ = some (.int .i64 a0_6) := (blk_cell BK120.out 6).trans rfl
                    have hcz49_7 : wc.cell? ⟨gb120, 7, none⟩ = some (.int .i64 a0_7) := (blk_cell BK120.out 7).trans rfl
                    have hcz49_8 : wc.cell? ⟨gb120, 8, none⟩ = some (.string a0_8) := (blk_cell BK120.out 8).trans rfl
                    have hcz49_9 : wc.cell? ⟨gb120, 9, none⟩ = some (.string a0_9) := (blk_cell BK120.out 9).trans rfl
                    have hcz49_10 : wc.cell? ⟨gb120, 10, none⟩ = some (.bool a0_10) := (blk_cell BK120.out 10).trans rfl
                    have hcz49_11 : wc.cell? ⟨gb120, 11, none⟩ = some (.int .i64 a0_11) := (blk_cell BK120.out 11).trans rfl
                    have hfz49_0 := blk_frozen BK120.out 0
                    have hfz49_1 := blk_frozen BK120.out 1
                    have hfz49_2 := blk_frozen BK120.out 2
                    have hfz49_3 := blk_frozen BK120.out 3
                    have hfz49_4 := blk_frozen BK120.out 4
                    have hfz49_5 := blk_frozen BK120.out 5
                    have hfz49_6 := blk_frozen BK120.out 6
                    have hfz49_7 := blk_frozen BK120.out 7
                    have hfz49_8 := blk_frozen BK120.out 8
                    have hfz49_9 := blk_frozen BK120.out 9
                    have hfz49_10 := blk_frozen BK120.out 10
                    have hfz49_11 := blk_frozen BK120.out 11
                    obtain ⟨Ao50, co50, eo50⟩ := Kd.R_slice HO_8.out
                    subst eo50
                    go_wp2_with (first | ((with_reducible refine gate_callee (f := 16) rfl ?_); refine goesL_ (some 64) rfl rfl Try.func16 (by kernel_rfl) rfl #[.slice Ao50 x8_33.length co50, .int .u64 (IntKind.u64.wrap (a0_11))] rfl (by (try simp only [List.map_toArray, List.map_cons, List.map_nil]); first | done | rfl | (simp only [List.length_drop, List.length_take]; rfl)) ?_; (with_reducible refine (num_Put.calls kj33 (fun k_ => some k_ = (.slice Ao50 x8_33.length co50 : Value).ownBlock) (.slice Ao50 x8_33.length co50) x8_33 (IntKind.u64.wrap (a0_11)) t153 w _ ?side1 ?side2 A48.out).mono ?_); (case side1 => repeat (first | (with_reducible first | exact HB.out | apply below_alloc | apply pw_below_drewN | apply below_drew1 | refine below_set ?_ GE120.out) | exact HB.out)); (case side2 => exact Kd.R_tight rfl HO_8.out); rintro e w51 ⟨v154, rfl, ho0, hb, hkp⟩; refine ⟨_, rfl, ?_⟩; have n0_ := Aside0.mk (blk_kept (by (with_reducible repeat (first | refine blk_drewN ?_ _ | refine blk_drew ?_ | refine blk_alloc ?_ _)); exact BK120.out) hkp (fun hs_ => (fun e_ => (Kd.R_ne HO_8.out BK120.out (by decide)) e_) hs_)); have n1_ := Aside0.mk (Kd.R_mono (ok' := fun k_ => True) ho0 (fun k_ hk_ => trivial)); have n2_ := Aside0.mk (hb); clear BK120; clear HB; clear HO_8; have BK120 := n0_; have HO155 := n1_; have HB := n2_; clear n0_ n1_ n2_; (try clear hb); (try clear hkp); (try clear ho0)))
                    go_meet
                    case rel => exact ⟨_, (t153), H', ⟨by have := HJ8.out; have := HJ27.out; have := HJ33.out; first | omega | exact Nat.le_refl _⟩, ⟨by (with_reducible repeat (first | apply Kd.R_alloc | apply Kd.R_drewN | apply Kd.R_drew)); exact HO155.out⟩, ⟨by (with_reducible repeat (first | refine blk_drewN ?_ _ | refine blk_drew ?_ | refine blk_alloc ?_ _)); exact BK120.out⟩, ⟨by repeat (first | (with_reducible first | exact HB.out | apply below_alloc | apply pw_below_drewN | apply below_drew1 | refine below_set ?_ GE120.out) | exact HB.out)⟩⟩
                  · replace c47 := Bool.eq_false_iff.mpr c47
                    subst c47
                    have H1 : (msg_Encode.j3 kj33 x8_33 a0_0 a0_1 a0_2 a0_3 a0_4 a0_5 a0_6 a0_7 a0_8 a0_9 a0_10 a0_11) = some (r1, r2) := by rw [if_neg (show ¬ (false = true) by decide)] at H; exact H
                    clear H
                    have H := H1
                    clear H1
                    have H' := Aside0.mk H
                    clear H
                    go_wp2
                    go_meet
                    case rel => exact ⟨_, (x8_33), H', ⟨by have := HJ8.out; have := HJ27.out; have := HJ33.out; first | omega | exact Nat.le_refl _⟩, ⟨by (with_reducible repeat (first | apply Kd.R_alloc | apply Kd.R_drewN | apply Kd.R_drew)); exact HO_8.out⟩, ⟨by (with_reducible repeat (first | refine blk_drewN ?_ _ | refine blk_drew ?_ | refine blk_alloc ?_ _)); exact BK120.out⟩, ⟨by repeat (first | (with_reducible first | exact HB.out | apply below_alloc | apply pw_below_drewN | apply below_drew1 | refine below_set ?_ GE120.out) | exact HB.out)⟩⟩
                case rest =>
                  clear HC46
                  try clear c1
                  try clear c2
                  try clear p2
                  try clear c3
                  try clear c4
                  try clear c16
                  try clear c18
                  try clear c19
                  try clear c23
                  try clear c28
                  try clear c29
                  try clear c31
                  try clear c35
                  try clear c47
                  try clear hcz11_0
                  try clear hcz11_1
                  try clear hcz11_10
                  try clear hcz11_11
                  try clear hcz11_2
                  try clear hcz11_3
                  try clear hcz11_4
                  try clear hcz11_5
                  try clear hcz11_6
                  try clear hcz11_7
                  try clear hcz11_8
                  try clear hcz11_9
                  try clear hcz13_0
                  try clear hcz13_1
                  try clear hcz13_10
                  try clear hcz13_11
                  try clear hcz13_2
                  try clear hcz13_3
                  try clear hcz13_4
                  try clear hcz13_5
                  try clear hcz13_6
                  try clear hcz13_7
                  try clear hcz13_8
                  try clear hcz13_9
                  try clear hcz20_0
                  try clear hcz20_1
                  try clear hcz20_10
                  try clear hcz20_11
                  try clear hcz20_2
                  try clear hcz20_3
                  try clear hcz20_4
                  try clear hcz20_5
                  try clear hcz20_6
                  try clear hcz20_7
                  try clear hcz20_8
                  try clear hcz20_9
                  try clear hcz25_0
                  try clear hcz25_1
                  try clear hcz25_10
                  try clear hcz25_11
                  try clear hcz25_2
                  try clear hcz25_3
                  try clear hcz25_4
                  try clear hcz25_5
                  try clear hcz25_6
                  try clear hcz25_7
                  try clear hcz25_8
                  try clear hcz25_9
                  try clear hcz31_0
                  try clear hcz31_1
                  try clear hcz31_10
                  try clear hcz31_11
                  try clear hcz31_2
                  try clear hcz31_3
                  try clear hcz31_4
                  try clear hcz31_5
                  try clear hcz31_6
                  try clear hcz31_7
                  try clear hcz31_8
                  try clear hcz31_9
                  try clear hcz49_0
                  try clear hcz49_1
                  try clear hcz49_10
                  try clear hcz49_11
                  try clear hcz49_2
                  try clear hcz49_3
                  try clear hcz49_4
                  try clear hcz49_5
                  try clear hcz49_6
                  try clear hcz49_7
                  try clear hcz49_8
                  try clear hcz49_9
                  try clear hfz11_0
                  try clear hfz11_1
                  try clear hfz11_10
                  try clear hfz11_11
                  try clear hfz11_2
                  try clear hfz11_3
                  try clear hfz11_4
                  try clear hfz11_5
                  try clear hfz11_6
                  try clear hfz11_7
                  try clear hfz11_8
                  try clear hfz11_9
                  try clear hfz13_0
                  try clear hfz13_1
                  try clear hfz13_10
                  try clear hfz13_11
                  try clear hfz13_2
                  try clear hfz13_3
                  try clear hfz13_4
                  try clear hfz13_5
                  try clear hfz13_6
                  try clear hfz13_7
                  try clear hfz13_8
                  try clear hfz13_9
                  try clear hfz20_0
                  try clear hfz20_1
                  try clear hfz20_10
                  try clear hfz20_11
                  try clear hfz20_2
                  try clear hfz20_3
                  try clear hfz20_4
                  try clear hfz20_5
                  try clear hfz20_6
                  try clear hfz20_7
                  try clear hfz20_8
                  try clear hfz20_9
                  try clear hfz25_0
                  try clear hfz25_1
                  try clear hfz25_10
                  try clear hfz25_11
                  try clear hfz25_2
                  try clear hfz25_3
                  try clear hfz25_4
                  try clear hfz25_5
                  try clear hfz25_6
                  try clear hfz25_7
                  try clear hfz25_8
                  try clear hfz25_9
                  try clear hfz31_0
                  try clear hfz31_1
                  try clear hfz31_10
                  try clear hfz31_11
                  try clear hfz31_2
                  try clear hfz31_3
                  try clear hfz31_4
                  try clear hfz31_5
                  try clear hfz31_6
                  try clear hfz31_7
                  try clear hfz31_8
                  try clear hfz31_9
                  try clear hfz49_0
                  try clear hfz49_1
                  try clear hfz49_10
                  try clear hfz49_11
                  try clear hfz49_2
                  try clear hfz49_3
                  try clear hfz49_4
                  try clear hfz49_5
                  try clear hfz49_6
                  try clear hfz49_7
                  try clear hfz49_8
                  try clear hfz49_9
                  try clear p2
                  obtain ⟨kq, x8_45, HA, HJ45, HO_8, BK120, HB⟩ := hcut
                  cases kq with
                  | zero => exact absurd HA.out (by simp [msg_Encode.j3])
                  | succ kj45 =>
                    have H := HA.out
                    clear HA
                    simp only [msg_Encode.j3] at H
                    by_cases c52 : a0_0 = 4
                    · rw [if_pos c52] at H
                      have c52b0 : (a0_0 == 4) = true := beq_iff_eq.mpr c52
                      have c52b1 : (a0_0 != 4) = false := bne_eq_false_iff_eq.mpr c52
                      clear c52
                      replace H := Option.bind_eq_some_iff.mp H
                      obtain ⟨t156, A530, H⟩ := H
                      replace H : ((num_Put.f kj45 x8_45 t156).bind fun t157 => ((num_Text.f kj45 t157 a0_9).bind fun t160 => (some (t160, 0)))) = some (r1, r2) := H
                      have A53 := Aside0.mk A530
                      clear A530
                      replace H := Option.bind_eq_some_iff.mp H
                      obtain ⟨t157, A540, H⟩ := H
                      replace H : ((num_Text.f kj45 t157 a0_9).bind fun t160 => (some (t160, 0))) = some (r1, r2) := H
                      have A54 := Aside0.mk A540
                      clear A540
                      replace H := Option.bind_eq_some_iff.mp H
                      obtain ⟨t160, A550, H⟩ := H
                      replace H : (some (t160, 0)) = some (r1, r2) := H
                      have A55 := Aside0.mk A550
                      clear A550
                      simp only [Option.some.injEq, Prod.mk.injEq] at H
                      obtain ⟨rfl, rfl⟩ := H
                      have hcz56_0 : wc.cell? ⟨gb120, 0, none⟩ = some (.int .i64 a0_0) := (blk_cell BK120.out 0).trans rfl
                      have hcz56_1 : wc.cell? ⟨gb120, 1, none⟩ = some (.int .i64 a0_1) := (blk_cell BK120.out 1).trans rfl
                      have hcz56_2 : wc.cell? ⟨gb120, 2, none⟩ = some (.int .i64 a0_2) := (blk_cell BK120.out 2).trans rfl
                      have hcz56_3 : wc.cell? ⟨gb120, 3, none⟩ = some (.int .u64 a0_3) := (blk_cell BK120.out 3).trans rfl
                      have hcz56_4 : wc.cell? ⟨gb120, 4, none⟩ = some (.int .i64 a0_4) := (blk_cell BK120.out 4).trans rfl
                      have hcz56_5 : wc.cell? ⟨gb120, 5, none⟩ = some (.int .u64 a0_5) := (blk_cell BK120.out 5).trans rfl
                      have hcz56_6 : wc.cell? ⟨gb120, 6, none⟩ = some (.int .i64 a0_6) := (blk_cell BK120.out 6).trans rfl
                      have hcz56_7 : wc.cell? ⟨gb120, 7, none⟩ = some (.int .i64 a0_7) := (blk_cell BK120.out 7).trans rfl
                      have hcz56_8 : wc.cell? ⟨gb120, 8, none⟩ = some (.string a0_8) := (blk_cell BK120.out 8).trans rfl
                      have hcz56_9 : wc.cell? ⟨gb120, 9, none⟩ = some (.string a0_9) := (blk_cell BK120.out 9).trans rfl
                      have hcz56_10 : wc.cell? ⟨gb120, 10, none⟩ = some (.bool a0_10) := (blk_cell BK120.out 10).trans rfl
                      have hcz56_11 : wc.cell? ⟨gb120, 11, none⟩ = some (.int .i64 a0_11) := (blk_cell BK120.out 11).trans rfl
                      have hfz56_0 := blk_frozen BK120.out 0
                      have hfz56_1 := blk_frozen BK120.out 1
                      have hfz56_2 := blk_frozen BK120.out 2
                      have hfz56_3 := blk_frozen BK120.out 3
                      have hfz56_4 := blk_frozen BK120.out 4
                      have hfz56_5 := blk_frozen BK120.out 5
                      have hfz56_6 := blk_frozen BK120.out 6
                      have hfz56_7 := blk_frozen BK120.out 7
                      have hfz56_8 := blk_frozen BK120.out 8
                      have hfz56_9 := blk_frozen BK120.out 9
                      have hfz56_10 := blk_frozen BK120.out 10
                      have hfz56_11 := blk_frozen BK120.out 11
                      try go_wp2
                      have n0_ := Aside0.mk (Kd.R_drew HO_8.out)
                      have n1_ := Aside0.mk (blk_drew BK120.out)
                      have n2_ := Aside0.mk (below_drew1 HB.out)
                      clear HO_8
                      clear BK120
                      clear HB
                      have HO_8 := n0_
                      have BK120 := n1_
                      have HB := n2_
                      clear n0_ n1_ n2_
                      refine start_ (n := 9) (S := fun w' => w'.cell? ⟨gb120, 0, none⟩ = some (.int .i64 a0_0) ∧ w'.cell? ⟨gb120, 1, none⟩ = some (.int .i64 a0_1) ∧ w'.cell? ⟨gb120, 2, none⟩ = some (.int .i64 a0_2) ∧ w'.cell? ⟨gb120, 3, none⟩ = some (.int .u64 a0_3) ∧ w'.cell? ⟨gb120, 4, none⟩ = some (.int .i64 a0_4) ∧ w'.cell? ⟨gb120, 5, none⟩ = some (.int .u64 a0_5) ∧ w'.cell? ⟨gb120, 6, none⟩ = some (.int .i64 a0_6) ∧ w'.cell? ⟨gb120, 7, none⟩ = some (.int .i64 a0_7) ∧ w'.cell? ⟨gb120, 8, none⟩ = some (.string a0_8) ∧ w'.cell? ⟨gb120, 9, none⟩ = some (.string a0_9) ∧ w'.cell? ⟨gb120, 10, none⟩ = some (.bool a0_10) ∧ w'.cell? ⟨gb120, 11, none⟩ = some (.int .i64 a0_11)) (ds := []) #[false, false, false, false, false, false, false, false, false] (by kernel_rfl) rfl rfl ⟨(blk_cell BK120.out 0).trans rfl, (blk_cell BK120.out 1).trans rfl, (blk_cell BK120.out 2).trans rfl, (blk_cell BK120.out 3).trans rfl, (blk_cell BK120.out 4).trans rfl, (blk_cell BK120.out 5).trans rfl, (blk_cell BK120.out 6).trans rfl, (blk_cell BK120.out 7).trans rfl, (blk_cell BK120.out 8).trans rfl, (blk_cell BK120.out 9).trans rfl, (blk_cell BK120.out 10).trans rfl, (blk_cell BK120.out 11).trans rfl⟩ (fun hHeld => ?_); refine with_tabW msg_Encode.tab15 msg_Encode.bits15 (fun HT_ HW_ => ?_)
                      generalize wc.drew = w57 at HO_8 BK120 HB hHeld ⊢
                      refine pure_ (i := 0) (N := some 68) (v := ?_) (a' := ?_) #[true, false, false, false, false, false, false, false, false] rfl rfl (any_of HT_.out (by kernel_rfl)) (fun _ _ _ h => h) (Or.inl ⟨by rfl, ?_⟩) ?_ ?_
                      rotate_left
                      · intro w'
                        go_simp
                        with_reducible rfl
                      rotate_left
                      · simp only [Act.put, List.setIfInBounds_toArray, List.set_cons_zero, List.set_cons_succ, i64_w, i32_w]
                        rfl
                      refine pure_ (i := 1) (N := some 69) (v := ?_) (a' := ?_) #[true, true, false, false, false, false, false, false, false] rfl rfl (any_of HT_.out (by kernel_rfl)) (fun _ _ _ h => h) (Or.inl ⟨by rfl, ?_⟩) ?_ ?_
                      rotate_left
                      · intro w'
                        go_simp
                        with_reducible rfl
                      rotate_left
                      · simp only [Act.put, List.setIfInBounds_toArray, List.set_cons_zero, List.set_cons_succ, i64_w, i32_w]
                        rfl
                      refine pure_ (i := 5) (N := some 73) (v := ?_) (a' := ?_) #[true, true, false, false, false, true, false, false, false] rfl rfl (any_of HT_.out (by kernel_rfl)) (fun _ _ _ h => h) (Or.inl ⟨by rfl, ?_⟩) ?_ ?_
                      rotate_left
                      · intro w'
                        go_simp
                        with_reducible rfl
                      rotate_left
                      · simp only [Act.put, List.setIfInBounds_toArray, List.set_cons_zero, List.set_cons_succ, i64_w, i32_w]
                        rfl
                      refine take_ (i := 2) (N := some 70) (v := ?_) (a' := ?_) #[true, true, true, false, false, true, false, false, false] rfl rfl (take_ofW HT_.out HW_.out (by kernel_rfl)) (fun _ _ _ h => h) (Or.inl ⟨by rfl, ?_⟩) hHeld ?_ ?_
                      rotate_left
                      · rintro w' ⟨s0, s1, s2, s3, s4, s5, s6, s7, s8, s9, s10, s11⟩
                        go_simp
                        with_reducible rfl
                      rotate_left
                      · simp only [Act.put, List.setIfInBounds_toArray, List.set_cons_zero, List.set_cons_succ, i64_w, i32_w]
                        rfl
                      refine take_ (i := 6) (N := some 74) (v := ?_) (a' := ?_) #[true, true, true, false, false, true, true, false, false] rfl rfl (take_ofW HT_.out HW_.out (by kernel_rfl)) (fun _ _ _ h => h) (Or.inl ⟨by rfl, ?_⟩) hHeld ?_ ?_
                      rotate_left
                      · rintro w' ⟨s0, s1, s2, s3, s4, s5, s6, s7, s8, s9, s10, s11⟩
                        go_simp
                        with_reducible rfl
                      rotate_left
                      · simp only [Act.put, List.setIfInBounds_toArray, List.set_cons_zero, List.set_cons_succ, i64_w, i32_w]
                        rfl
                      refine one_ (i := 3) (N := some 71) #[true, true, true, true, false, true, true, false, false] rfl rfl (one_of HT_.out (by kernel_rfl)) (by decide) (fun K hK => ?_)
                      refine goes_ Try.func37 (by kernel_rfl) rfl #[.bool a0_10] (by rfl) rfl rfl (by (try simp only [List.map_toArray, List.map_cons, List.map_nil]); first | done | rfl | (simp only [List.length_drop, List.length_take]; rfl)) ?_
                      with_reducible refine (msg_bit.calls a0_10 t156 _ A53.out).mono ?_
                      rintro e w' ⟨rfl, ⟨nd, rfl⟩⟩
                      refine ⟨_, rfl, ?_⟩
                      obtain ⟨Ao58, co58, eo58⟩ := Kd.R_slice HO_8.out
                      (first | subst eo58 | (injection eo58 with f1_ f2_ f3_; have f4_ := f1_.symm; have f5_ := f3_.symm; clear f1_ f2_ f3_; subst f4_; subst f5_))
                      refine hK.out _ _ ⟨(blk_cell BK120.out 0).trans rfl, (blk_cell BK120.out 1).trans rfl, (blk_cell BK120.out 2).trans rfl, (blk_cell BK120.out 3).trans rfl, (blk_cell BK120.out 4).trans rfl, (blk_cell BK120.out 5).trans rfl, (blk_cell BK120.out 6).trans rfl, (blk_cell BK120.out 7).trans rfl, (blk_cell BK120.out 8).trans rfl, (blk_cell BK120.out 9).trans rfl, (blk_cell BK120.out 10).trans rfl, (blk_cell BK120.out 11).trans rfl⟩ (fun hHeld => ?_)
                      clear hK K
                      refine norm_ (a' := ?_) ?_ ?_
                      rotate_left
                      · show Act.put _ (some 71) _ = _
                        simp only [Act.put, List.setIfInBounds_toArray, List.set_cons_zero, List.set_cons_succ, i64_w, i32_w]
                        rfl
                      refine one_ (i := 4) (N := some 72) #[true, true, true, true, true, true, true, false, false] rfl rfl (one_of HT_.out (by kernel_rfl)) (by decide) (fun K hK => ?_)
                      refine goes_ Try.func16 (by kernel_rfl) rfl #[.slice Ao58 x8_45.length co58, .int .u64 t156] (by rfl) rfl rfl (by (try simp only [List.map_toArray, List.map_cons, List.map_nil]); first | done | rfl | (simp only [List.length_drop, List.length_take]; rfl)) ?_
                      with_reducible refine (num_Put.calls kj45 (fun k_ => some k_ = (.slice Ao58 x8_45.length co58 : Value).ownBlock) (.slice Ao58 x8_45.length co58) x8_45 t156 t157 w _ ?side1 ?side2 A54.out).mono ?_
                      (case side1 => repeat (first | (with_reducible first | exact HB.out | apply below_alloc | apply pw_below_drewN | apply below_drew1 | refine below_set ?_ GE120.out) | exact HB.out))
                      (case side2 => exact Kd.R_tight rfl HO_8.out)
                      rintro e w59 ⟨v158, rfl, ho0, hb, hkp⟩
                      refine ⟨_, rfl, ?_⟩
                      have n0_ := Aside0.mk (blk_kept (by (with_reducible repeat (first | refine blk_drewN ?_ _ | refine blk_drew ?_ | refine blk_alloc ?_ _)); exact BK120.out) hkp (fun hs_ => (fun e_ => (Kd.R_ne HO_8.out BK120.out (by decide)) e_) hs_))
                      have n1_ := Aside0.mk (Kd.R_mono (ok' := fun k_ => True) ho0 (fun k_ hk_ => trivial))
                      have n2_ := Aside0.mk (hb)
                      clear BK120
                      clear HB
                      clear HO_8
                      have BK120 := n0_
                      have HO159 := n1_
                      have HB := n2_
                      clear n0_ n1_ n2_
                      (try clear hb)
                      (try clear hkp)
                      (try clear ho0)
                      obtain ⟨Ao60, co60, eo60⟩ := Kd.R_slice HO159.out
                      (first | subst eo60 | (injection eo60 with f1_ f2_ f3_; have f4_ := f1_.symm; have f5_ := f3_.symm; clear f1_ f2_ f3_; subst f4_; subst f5_))
                      refine hK.out _ _ ⟨(blk_cell BK120.out 0).trans rfl, (blk_cell BK120.out 1).trans rfl, (blk_cell BK120.out 2).trans rfl, (blk_cell BK120.out 3).trans rfl, (blk_cell BK120.out 4).trans rfl, (blk_cell BK120.out 5).trans rfl, (blk_cell BK120.out 6).trans rfl, (blk_cell BK120.out 7).trans rfl, (blk_cell BK120.out 8).trans rfl, (blk_cell BK120.out 9).trans rfl, (blk_cell BK120.out 10).trans rfl, (blk_cell BK120.out 11).trans rfl⟩ (fun hHeld => ?_)
                      clear hK K
                      refine norm_ (a' := ?_) ?_ ?_
                      rotate_left
                      · show Act.put _ (some 72) _ = _
                        simp only [Act.put, List.setIfInBounds_toArray, List.set_cons_zero, List.set_cons_succ, i64_w, i32_w]
                        rfl
                      refine one_ (i := 7) (N := some 75) #[true, true, true, true, true, true, true, true, false] rfl rfl (one_of HT_.out (by kernel_rfl)) (by decide) (fun K hK => ?_)
                      refine goes_ Try.func18 (by kernel_rfl) rfl #[.slice Ao60 t157.length co60, .string a0_9] (by rfl) rfl rfl (by (try simp only [List.map_toArray, List.map_cons, List.map_nil]); first | done | rfl | (simp only [List.length_drop, List.length_take]; rfl)) ?_
                      with_reducible refine (num_Text.calls kj45 (fun k_ => some k_ = (.slice Ao60 t157.length co60 : Value).ownBlock) (.slice Ao60 t157.length co60) t157 a0_9 t160 w _ ?side1 ?side2 A55.out).mono ?_
                      (case side1 => repeat (first | (with_reducible first | exact HB.out | apply below_alloc | apply pw_below_drewN | apply below_drew1 | refine below_set ?_ GE120.out) | exact HB.out))
                      (case side2 => exact Kd.R_tight rfl HO159.out)
                      rintro e w61 ⟨v161, rfl, ho0, hb, hkp⟩
                      refine ⟨_, rfl, ?_⟩
                      have n0_ := Aside0.mk (blk_kept (by (with_reducible repeat (first | refine blk_drewN ?_ _ | refine blk_drew ?_ | refine blk_alloc ?_ _)); exact BK120.out) hkp (fun hs_ => (fun e_ => (Kd.R_ne HO159.out BK120.out (by decide)) e_) hs_))
                      have n1_ := Aside0.mk (Kd.R_mono (ok' := fun k_ => True) ho0 (fun k_ hk_ => trivial))
                      have n2_ := Aside0.mk (hb)
                      clear BK120
                      clear HB
                      clear HO159
                      have BK120 := n0_
                      have HO162 := n1_
                      have HB := n2_
                      clear n0_ n1_ n2_
                      (try clear hb)
                      (try clear hkp)
                      (try clear ho0)
                      refine hK.out _ _ ⟨(blk_cell BK120.out 0).trans rfl, (blk_cell BK120.out 1).trans rfl, (blk_cell BK120.out 2).trans rfl, (blk_cell BK120.out 3).trans rfl, (blk_cell BK120.out 4).trans rfl, (blk_cell BK120.out 5).trans rfl, (blk_cell BK120.out 6).trans rfl, (blk_cell BK120.out 7).trans rfl, (blk_cell BK120.out 8).trans rfl, (blk_cell BK120.out 9).trans rfl, (blk_cell BK120.out 10).trans rfl, (blk_cell BK120.out 11).trans rfl⟩ (fun hHeld => ?_)
                      clear hK K
                      refine norm_ (a' := ?_) ?_ ?_
                      rotate_left
                      · show Act.put _ (some 75) _ = _
                        simp only [Act.put, List.setIfInBounds_toArray, List.set_cons_zero, List.set_cons_succ, i64_w, i32_w]
                        rfl
                      refine pure_ (i := 8) (N := some 8) (v := ?_) (a' := ?_) #[true, true, true, true, true, true, true, true, true] rfl rfl (any_of HT_.out (by kernel_rfl)) (fun _ _ _ h => h) (Or.inl ⟨by rfl, ?_⟩) ?_ ?_
                      rotate_left
                      · intro w'
                        go_simp
                        with_reducible rfl
                      rotate_left
                      · simp only [Act.put, List.setIfInBounds_toArray, List.set_cons_zero, List.set_cons_succ, i64_w, i32_w]
                        rfl
                      refine done_ (done_of HT_.out (by kernel_rfl)) ?_
                      try go_wp2
                      go_ret2
                      exact ⟨_, by first | rfl | (simp [errW_none, errW_some] <;> rfl) | (simp [*, errW_none, errW_some] <;> rfl), by (with_reducible repeat (first | apply Kd.R_alloc | apply Kd.R_drewN | apply Kd.R_drew)); exact HO162.out, by repeat (first | (with_reducible first | exact HB.out | apply below_alloc | apply pw_below_drewN | apply below_drew1 | refine below_set ?_ GE120.out) | exact HB.out)⟩
                    · rw [if_neg c52] at H
                      have c52b0 : (a0_0 == 4) = false := beq_eq_false_iff_ne.mpr c52
                      have c52b1 : (a0_0 != 4) = true := bne_iff_ne.mpr c52
                      simp only [Option.some.injEq, Prod.mk.injEq] at H
                      obtain ⟨rfl, rfl⟩ := H
                      have hcz62_0 : wc.cell? ⟨gb120, 0, none⟩ = some (.int .i64 a0_0) := (blk_cell BK120.out 0).trans rfl
                      have hcz62_1 : wc.cell? ⟨gb120, 1, none⟩ = some (.int .i64 a0_1) := (blk_cell BK120.out 1).trans rfl
                      have hcz62_2 : wc.cell? ⟨gb120, 2, none⟩ = some (.int .i64 a0_2) := (blk_cell BK120.out 2).trans rfl
                      have hcz62_3 : wc.cell? ⟨gb120, 3, none⟩ = some (.int .u64 a0_3) := (blk_cell BK120.out 3).trans rfl
                      have hcz62_4 : wc.cell? ⟨gb120, 4, none⟩ = some (.int .i64 a0_4) := (blk_cell BK120.out 4).trans rfl
                      have hcz62_5 : wc.cell? ⟨gb120, 5, none⟩ = some (.int .u64 a0_5) := (blk_cell BK120.out 5).trans rfl
                      have hcz62_6 : wc.cell? ⟨gb120, 6, none⟩ = some (.int .i64 a0_6) := (blk_cell BK120.out 6).trans rfl
                      have hcz62_7 : wc.cell? ⟨gb120, 7, none⟩ = some (.int .i64 a0_7) := (blk_cell BK120.out 7).trans rfl
                      have hcz62_8 : wc.cell? ⟨gb120, 8, none⟩ = some (.string a0_8) := (blk_cell BK120.out 8).trans rfl
                      have hcz62_9 : wc.cell? ⟨gb120, 9, none⟩ = some (.string a0_9) := (blk_cell BK120.out 9).trans rfl
                      have hcz62_10 : wc.cell? ⟨gb120, 10, none⟩ = some (.bool a0_10) := (blk_cell BK120.out 10).trans rfl
                      have hcz62_11 : wc.cell? ⟨gb120, 11, none⟩ = some (.int .i64 a0_11) := (blk_cell BK120.out 11).trans rfl
                      have hfz62_0 := blk_frozen BK120.out 0
                      have hfz62_1 := blk_frozen BK120.out 1
                      have hfz62_2 := blk_frozen BK120.out 2
                      have hfz62_3 := blk_frozen BK120.out 3
                      have hfz62_4 := blk_frozen BK120.out 4
                      have hfz62_5 := blk_frozen BK120.out 5
                      have hfz62_6 := blk_frozen BK120.out 6
                      have hfz62_7 := blk_frozen BK120.out 7
                      have hfz62_8 := blk_frozen BK120.out 8
                      have hfz62_9 := blk_frozen BK120.out 9
                      have hfz62_10 := blk_frozen BK120.out 10
                      have hfz62_11 := blk_frozen BK120.out 11
                      go_wp2
                      go_ret2
                      exact ⟨_, by first | rfl | (simp [errW_none, errW_some] <;> rfl) | (simp [*, errW_none, errW_some] <;> rfl), by (with_reducible repeat (first | apply Kd.R_alloc | apply Kd.R_drewN | apply Kd.R_drew)); exact HO_8.out, by repeat (first | (with_reducible first | exact HB.out | apply below_alloc | apply pw_below_drewN | apply below_drew1 | refine below_set ?_ GE120.out) | exact HB.out)⟩
  · replace c3 := Bool.eq_false_iff.mpr c3
    subst c3
    have H1 : (some (([] : List Int), 1)) = some (r1, r2) := by rw [if_neg (show ¬ (false = true) by decide)] at H; exact H
    clear H
    have H := H1
    clear H1
    simp only [Option.some.injEq, Prod.mk.injEq] at H
    obtain ⟨rfl, rfl⟩ := H
    go_enter Try.func28, Try.ntmps28
    go_wp2_with (first | ((with_reducible refine gate_dst (N := 1) rfl ?_); refine box_event ?hg (N := 1) ?hd (cs := #[.int .i64 a0_0, .int .i64 a0_1, .int .i64 a0_2, .int .u64 a0_3, .int .i64 a0_4, .int .u64 a0_5, .int .i64 a0_6, .int .i64 a0_7, .string a0_8, .string a0_9, .bool a0_10, .int .i64 a0_11]) (t := 47) ?hr ?_; (case hd => rfl); (case hg => rfl); (case hr => first | (go_simp; done) | (go_simp; rfl)); intro gb120 hg w63 hbox hb; have n0_ := Aside0.mk (below_step (by repeat (first | (with_reducible first | exact HB.out | apply below_alloc | apply pw_below_drewN | apply below_drew1) | exact HB.out)) hb); have n1_ := Aside0.mk (hbox); have n2_ := Aside0.mk ((by rw [hg]; exact (below_size (by repeat (first | (with_reducible first | exact HB.out | apply below_alloc | apply pw_below_drewN | apply below_drew1) | exact HB.out))) : w.heap.size ≤ gb120)); have n3_ := Aside0.mk ((by rw [hg]; exact (below_size (by repeat (first | (with_reducible first | exact HB.out | apply below_alloc | apply pw_below_drewN | apply below_drew1) | exact HB.out))) : w.heap.size ≤ gb120)); clear HB; have HB := n0_; have BK120 := n1_; have GW120 := n2_; have GE120 := n3_; clear n0_ n1_ n2_ n3_; clear hb hbox hg; have hcz64_0 : w63.cell? ⟨gb120, 0, none⟩ = some (.int .i64 a0_0) := (blk_cell BK120.out 0).trans rfl; have hcz64_1 : w63.cell? ⟨gb120, 1, none⟩ = some (.int .i64 a0_1) := (blk_cell BK120.out 1).trans rfl; have hcz64_2 : w63.cell? ⟨gb120, 2, none⟩ = some (.int .i64 a0_2) := (blk_cell BK120.out 2).trans rfl; have hcz64_3 : w63.cell? ⟨gb120, 3, none⟩ = some (.int .u64 a0_3) := (blk_cell BK120.out 3).trans rfl; have hcz64_4 : w63.cell? ⟨gb120, 4, none⟩ = some (.int .i64 a0_4) := (blk_cell BK120.out 4).trans rfl; have hcz64_5 : w63.cell? ⟨gb120, 5, none⟩ = some (.int .u64 a0_5) := (blk_cell BK120.out 5).trans rfl; have hcz64_6 : w63.cell? ⟨gb120, 6, none⟩ = some (.int .i64 a0_6) := (blk_cell BK120.out 6).trans rfl; have hcz64_7 : w63.cell? ⟨gb120, 7, none⟩ = some (.int .i64 a0_7) := (blk_cell BK120.out 7).trans rfl; have hcz64_8 : w63.cell? ⟨gb120, 8, none⟩ = some (.string a0_8) := (blk_cell BK120.out 8).trans rfl; have hcz64_9 : w63.cell? ⟨gb120, 9, none⟩ = some (.string a0_9) := (blk_cell BK120.out 9).trans rfl; have hcz64_10 : w63.cell? ⟨gb120, 10, none⟩ = some (.bool a0_10) := (blk_cell BK120.out 10).trans rfl; have hcz64_11 : w63.cell? ⟨gb120, 11, none⟩ = some (.int .i64 a0_11) := (blk_cell BK120.out 11).trans rfl; have hfz64_0 := blk_frozen BK120.out 0; have hfz64_1 := blk_frozen BK120.out 1; have hfz64_2 := blk_frozen BK120.out 2; have hfz64_3 := blk_frozen BK120.out 3; have hfz64_4 := blk_frozen BK120.out 4; have hfz64_5 := blk_frozen BK120.out 5; have hfz64_6 := blk_frozen BK120.out 6; have hfz64_7 := blk_frozen BK120.out 7; have hfz64_8 := blk_frozen BK120.out 8; have hfz64_9 := blk_frozen BK120.out 9; have hfz64_10 := blk_frozen BK120.out 10; have hfz64_11 := blk_frozen BK120.out 11) | ((with_reducible refine gate_callee (f := 31) rfl ?_); refine goesL_ (some 10) rfl rfl Try.func31 (by kernel_rfl) rfl #[.agg #[.int .i64 a0_0, .int .i64 a0_1, .int .i64 a0_2, .int .u64 a0_3, .int .i64 a0_4, .int .u64 a0_5, .int .i64 a0_6, .int .i64 a0_7, .string a0_8, .string a0_9, .bool a0_10, .int .i64 a0_11]] rfl (by (try simp only [List.map_toArray, List.map_cons, List.map_nil]); first | done | rfl | (simp only [List.length_drop, List.length_take]; rfl)) ?_; (with_reducible refine (msg_Msg_Right.calls a0_0 a0_1 a0_2 a0_3 a0_4 a0_5 a0_6 a0_7 a0_8 a0_9 a0_10 a0_11 false _ A2.out).mono ?_); rintro e w65 ⟨rfl, hb⟩; refine ⟨_, rfl, ?_⟩; have n0_ := Aside0.mk (blk_below (g := gb120) (o := .cells #[.int .i64 a0_0, .int .i64 a0_1, .int .i64 a0_2, .int .u64 a0_3, .int .i64 a0_4, .int .u64 a0_5, .int .i64 a0_6, .int .i64 a0_7, .string a0_8, .string a0_9, .bool a0_10, .int .i64 a0_11] 47 (0, 0)) (by (with_reducible repeat (first | refine blk_drewN ?_ _ | refine blk_drew ?_ | refine blk_alloc ?_ _)); exact BK120.out) hb); have n1_ := Aside0.mk (below_step (by repeat (first | (with_reducible first | exact HB.out | apply below_alloc | apply pw_below_drewN | apply below_drew1 | refine below_set ?_ GE120.out) | exact HB.out)) hb); clear BK120; clear HB; have BK120 := n0_; have HB := n1_; clear n0_ n1_; (try clear hb); (try clear hb2); (try clear hk); (try clear hi)))
    go_ret2
    exact ⟨_, by first | rfl | (simp [errW_none, errW_some] <;> rfl) | (simp [*, errW_none, errW_some] <;> rfl), by first | exact Kd.R_nil _ _ _ _ _ | exact Kd.N_nil _ _ _ _ _ | exact Kd.V_nil _ _ _ _ _ | exact Kd.Q_nil _ _ _ _ _ | exact Kd.S_nil _ _ _ _ _, by repeat (first | (with_reducible first | exact HB.out | apply below_alloc | apply pw_below_drewN | apply below_drew1 | refine below_set ?_ GE120.out) | exact HB.out)⟩

end Go.Proofs.Ytolcmjoapnldiaa.Q
