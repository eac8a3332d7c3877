-- printed by a turned print (wip/mkprint.py of this repo) out of the translation; Lean checks it
import Derived.Test.YtolcmjoapnldiaaM0
import Derived.Test.YtolcmjoapnldiaaM3
import Derived.Test.YtolcmjoapnldiaaM5
namespace Go.Proofs.Ytolcmjoapnldiaa.Q
open Go.RowKit Go.Proofs.YtolcmjoapnldiaaW.PrintWords Go.Proofs.YtolcmjoapnldiaaW.PrintLast Go.Proofs.YtolcmjoapnldiaaW.PrintMore
attribute [local go_sem] max2_int min2_int max_two min_two max_three min_three max_four min_four   -- for this text's walks alone
set_option linter.unusedVariables false
set_option linter.unusedSimpArgs false

/-! ### msg_Decode: function 33 -/
mutual
def msg_Decode.j0 : Nat → Bool → Bool → Bool → RdS → Int → Int → Int → Int → Int → Int → Int → Int → ByteArray → ByteArray → Bool → Int → Option (Int × Int × Int × Int × Int × Int × Int × Int × ByteArray × ByteArray × Bool × Int × Int)
  | 0, _, _, _, _, _, _, _, _, _, _, _, _, _, _, _, _ => none
  | k + 1, x7, x8, x9, x179000, x186000, x186001, x186002, x186003, x186004, x186005, x186006, x186007, x186008, x186009, x186010, x186011 => if x7 = true then ((num_Reader_Num.f x179000 1048576).bind fun bt195 => (msg_Decode.j1 k x8 x9 bt195.2 x186000 x186001 x186002 x186003 x186004 x186005 (wrap64 (bt195.1)) x186007 x186008 x186009 x186010 x186011)) else (msg_Decode.j1 k x8 x9 x179000 x186000 x186001 x186002 x186003 x186004 x186005 x186006 x186007 x186008 x186009 x186010 x186011)
def msg_Decode.j1 : Nat → Bool → Bool → RdS → Int → Int → Int → Int → Int → Int → Int → Int → ByteArray → ByteArray → Bool → Int → Option (Int × Int × Int × Int × Int × Int × Int × Int × ByteArray × ByteArray × Bool × Int × Int)
  | 0, _, _, _, _, _, _, _, _, _, _, _, _, _, _, _ => none
  | k + 1, x8, x9, x179000, x186000, x186001, x186002, x186003, x186004, x186005, x186006, x186007, x186008, x186009, x186010, x186011 => if x8 = true then ((num_Reader_Num.f x179000 3).bind fun bt197 => ((num_Reader_Text.f bt197.2 24).bind fun bt199 => ((num_Reader_Text.f bt199.2 48).bind fun bt201 => (msg_Decode.j2 k x9 bt201.2 x186000 x186001 x186002 x186003 x186004 x186005 x186006 (wrap64 (bt197.1)) bt199.1 bt201.1 x186010 x186011)))) else (msg_Decode.j2 k x9 x179000 x186000 x186001 x186002 x186003 x186004 x186005 x186006 x186007 x186008 x186009 x186010 x186011)
def msg_Decode.j2 : Nat → Bool → RdS → Int → Int → Int → Int → Int → Int → Int → Int → ByteArray → ByteArray → Bool → Int → Option (Int × Int × Int × Int × Int × Int × Int × Int × ByteArray × ByteArray × Bool × Int × Int)
  | 0, _, _, _, _, _, _, _, _, _, _, _, _, _, _ => none
  | k + 1, x9, x179000, x186000, x186001, x186002, x186003, x186004, x186005, x186006, x186007, x186008, x186009, x186010, x186011 => if x9 = true then ((num_Reader_Num.f x179000 17).bind fun bt203 => (msg_Decode.j3 k bt203.2 x186000 x186001 x186002 x186003 x186004 x186005 x186006 x186007 x186008 x186009 x186010 (wrap64 (bt203.1)))) else (msg_Decode.j3 k x179000 x186000 x186001 x186002 x186003 x186004 x186005 x186006 x186007 x186008 x186009 x186010 x186011)
def msg_Decode.j3 : Nat → RdS → Int → Int → Int → Int → Int → Int → Int → Int → ByteArray → ByteArray → Bool → Int → Option (Int × Int × Int × Int × Int × Int × Int × Int × ByteArray × ByteArray × Bool × Int × Int)
  | 0, _, _, _, _, _, _, _, _, _, _, _, _, _ => none
  | k + 1, x179000, x186000, x186001, x186002, x186003, x186004, x186005, x186006, x186007, x186008, x186009, x186010, x186011 => if x186000 = 4 then ((num_Reader_Num.f x179000 1).bind fun bt205 => ((num_Reader_Text.f bt205.2 48).bind fun bt207 => (msg_Decode.j4 k bt207.2 x186000 x186001 x186002 x186003 x186004 x186005 x186006 x186007 x186008 bt207.1 (bt205.1 == 1) x186011))) else (msg_Decode.j4 k x179000 x186000 x186001 x186002 x186003 x186004 x186005 x186006 x186007 x186008 x186009 x186010 x186011)
def msg_Decode.j4 : Nat → RdS → Int → Int → Int → Int → Int → Int → Int → Int → ByteArray → ByteArray → Bool → Int → Option (Int × Int × Int × Int × Int × Int × Int × Int × ByteArray × ByteArray × Bool × Int × Int)
  | 0, _, _, _, _, _, _, _, _, _, _, _, _, _ => none
  | k + 1, x179000, x186000, x186001, x186002, x186003, x186004, x186005, x186006, x186007, x186008, x186009, x186010, x186011 => (num_Reader_End.f x179000).bind fun bt209 => (if bt209.1 = 0 then ((msg_Msg_Right.f x186000 x186001 x186002 x186003 x186004 x186005 x186006 x186007 x186008 x186009 x186010 x186011).bind fun t211 => (if t211 = true then (some (x186000, x186001, x186002, x186003, x186004, x186005, x186006, x186007, x186008, x186009, x186010, x186011, 0)) else (some (0, 0, 0, 0, 0, 0, 0, 0, (⟨#[]⟩ : ByteArray), (⟨#[]⟩ : ByteArray), false, 0, 11)))) else (some (0, 0, 0, 0, 0, 0, 0, 0, (⟨#[]⟩ : ByteArray), (⟨#[]⟩ : ByteArray), false, 0, 11)))
end
def msg_Decode.f (k : Nat) (l0 : List Int) : Option (Int × Int × Int × Int × Int × Int × Int × Int × ByteArray × ByteArray × Bool × Int × Int) := (num_Read.f l0).bind fun t177 => ((num_Reader_Num.f t177 10).bind fun bt179 => ((num_Reader_Num.f bt179.2 63).bind fun bt181 => ((num_Reader_Num.f bt181.2 63).bind fun bt183 => ((num_Reader_Tid.f bt183.2).bind fun bt186 => ((msg_has.f (wrap64 (bt179.1))).bind fun bt189 => (if bt189.1 = true then ((num_Reader_Num.f bt186.2.2 1099511627776).bind fun bt193 => (msg_Decode.j0 k bt189.2.1 bt189.2.2.1 bt189.2.2.2 bt193.2 (wrap64 (bt179.1)) (wrap64 (bt181.1)) (wrap64 (bt183.1)) bt186.1 bt186.2.1 bt193.1 0 0 (⟨#[]⟩ : ByteArray) (⟨#[]⟩ : ByteArray) false 0)) else (msg_Decode.j0 k bt189.2.1 bt189.2.2.1 bt189.2.2.2 bt186.2.2 (wrap64 (bt179.1)) (wrap64 (bt181.1)) (wrap64 (bt183.1)) bt186.1 bt186.2.1 0 0 0 (⟨#[]⟩ : ByteArray) (⟨#[]⟩ : ByteArray) false 0)))))))
theorem msg_Decode.mono_l : ∀ k, (∀ y0 y1 y2 y3 y4 y5 y6 y7 y8 y9 y10 y11 y12 y13 y14 y15, LeO (msg_Decode.j0 k y0 y1 y2 y3 y4 y5 y6 y7 y8 y9 y10 y11 y12 y13 y14 y15) (msg_Decode.j0 (k + 1) y0 y1 y2 y3 y4 y5 y6 y7 y8 y9 y10 y11 y12 y13 y14 y15)) ∧ (∀ y0 y1 y2 y3 y4 y5 y6 y7 y8 y9 y10 y11 y12 y13 y14, LeO (msg_Decode.j1 k y0 y1 y2 y3 y4 y5 y6 y7 y8 y9 y10 y11 y12 y13 y14) (msg_Decode.j1 (k + 1) y0 y1 y2 y3 y4 y5 y6 y7 y8 y9 y10 y11 y12 y13 y14)) ∧ (∀ y0 y1 y2 y3 y4 y5 y6 y7 y8 y9 y10 y11 y12 y13, LeO (msg_Decode.j2 k y0 y1 y2 y3 y4 y5 y6 y7 y8 y9 y10 y11 y12 y13) (msg_Decode.j2 (k + 1) y0 y1 y2 y3 y4 y5 y6 y7 y8 y9 y10 y11 y12 y13)) ∧ (∀ y0 y1 y2 y3 y4 y5 y6 y7 y8 y9 y10 y11 y12, LeO (msg_Decode.j3 k y0 y1 y2 y3 y4 y5 y6 y7 y8 y9 y10 y11 y12) (msg_Decode.j3 (k + 1) y0 y1 y2 y3 y4 y5 y6 y7 y8 y9 y10 y11 y12)) ∧ (∀ y0 y1 y2 y3 y4 y5 y6 y7 y8 y9 y10 y11 y12, LeO (msg_Decode.j4 k y0 y1 y2 y3 y4 y5 y6 y7 y8 y9 y10 y11 y12) (msg_Decode.j4 (k + 1) y0 y1 y2 y3 y4 y5 y6 y7 y8 y9 y10 y11 y12))
  | 0 => ⟨fun _ _ _ _ _ _ _ _ _ _ _ _ _ _ _ _ r h => by simp [msg_Decode.j0] at h, fun _ _ _ _ _ _ _ _ _ _ _ _ _ _ _ r h => by simp [msg_Decode.j1] at h, fun _ _ _ _ _ _ _ _ _ _ _ _ _ _ r h => by simp [msg_Decode.j2] at h, fun _ _ _ _ _ _ _ _ _ _ _ _ _ r h => by simp [msg_Decode.j3] at h, fun _ _ _ _ _ _ _ _ _ _ _ _ _ r h => by simp [msg_Decode.j4] at h⟩
  | k + 1 => by
    obtain ⟨ih0, ih1, ih2, ih3, ih4⟩ := msg_Decode.mono_l k
    refine ⟨?_, ?_, ?_, ?_, ?_⟩
    · intro y0 y1 y2 y3 y4 y5 y6 y7 y8 y9 y10 y11 y12 y13 y14 y15
      unfold msg_Decode.j0
      repeat' first
      | (with_reducible exact ih0 _ _ _ _ _ _ _ _ _ _ _ _ _ _ _ _)
      | (with_reducible exact ih1 _ _ _ _ _ _ _ _ _ _ _ _ _ _ _)
      | (with_reducible exact ih2 _ _ _ _ _ _ _ _ _ _ _ _ _ _)
      | (with_reducible exact ih3 _ _ _ _ _ _ _ _ _ _ _ _ _)
      | (with_reducible exact ih4 _ _ _ _ _ _ _ _ _ _ _ _ _)
      | (with_reducible exact LeO.refl _)
      | (with_reducible exact LeO.none _)
      | (with_reducible refine LeO.ite ?_ ?_)
      | (with_reducible refine LeO.bind ?_ (fun _ => ?_))
      | exact ih0 _ _ _ _ _ _ _ _ _ _ _ _ _ _ _ _
      | exact ih1 _ _ _ _ _ _ _ _ _ _ _ _ _ _ _
      | exact ih2 _ _ _ _ _ _ _ _ _ _ _ _ _ _
      | exact ih3 _ _ _ _ _ _ _ _ _ _ _ _ _
      | exact ih4 _ _ _ _ _ _ _ _ _ _ _ _ _
      | exact LeO.none _
      | refine LeO.ite ?_ ?_
      | refine LeO.bind ?_ (fun _ => ?_)
    · intro y0 y1 y2 y3 y4 y5 y6 y7 y8 y9 y10 y11 y12 y13 y14
      unfold msg_Decode.j1
      repeat' first
      | (with_reducible exact ih0 _ _ _ _ _ _ _ _ _ _ _ _ _ _ _ _)
      | (with_reducible exact ih1 _ _ _ _ _ _ _ _ _ _ _ _ _ _ _)
      | (with_reducible exact ih2 _ _ _ _ _ _ _ _ _ _ _ _ _ _)
      | (with_reducible exact ih3 _ _ _ _ _ _ _ _ _ _ _ _ _)
      | (with_reducible exact ih4 _ _ _ _ _ _ _ _ _ _ _ _ _)
      | (with_reducible exact LeO.refl _)
      | (with_reducible exact LeO.none _)
      | (with_reducible refine LeO.ite ?_ ?_)
      | (with_reducible refine LeO.bind ?_ (fun _ => ?_))
      | exact ih0 _ _ _ _ _ _ _ _ _ _ _ _ _ _ _ _
      | exact ih1 _ _ _ _ _ _ _ _ _ _ _ _ _ _ _
      | exact ih2 _ _ _ _ _ _ _ _ _ _ _ _ _ _
      | exact ih3 _ _ _ _ _ _ _ _ _ _ _ _ _
      | exact ih4 _ _ _ _ _ _ _ _ _ _ _ _ _
      | exact LeO.none _
      | refine LeO.ite ?_ ?_
      | refine LeO.bind ?_ (fun _ => ?_)
    · intro y0 y1 y2 y3 y4 y5 y6 y7 y8 y9 y10 y11 y12 y13
      unfold msg_Decode.j2
      repeat' first
      | (with_reducible exact ih0 _ _ _ _ _ _ _ _ _ _ _ _ _ _ _ _)
      | (with_reducible exact ih1 _ _ _ _ _ _ _ _ _ _ _ _ _ _ _)
      | (with_reducible exact ih2 _ _ _ _ _ _ _ _ _ _ _ _ _ _)
      | (with_reducible exact ih3 _ _ _ _ _ _ _ _ _ _ _ _ _)
      | (with_reducible exact ih4 _ _ _ _ _ _ _ _ _ _ _ _ _)
      | (with_reducible exact LeO.refl _)
      | (with_reducible exact LeO.none _)
      | (with_reducible refine LeO.ite ?_ ?_)
      | (with_reducible refine LeO.bind ?_ (fun _ => ?_))
      | exact ih0 _ _ _ _ _ _ _ _ _ _ _ _ _ _ _ _
      | exact ih1 _ _ _ _ _ _ _ _ _ _ _ _ _ _ _
      | exact ih2 _ _ _ _ _ _ _ _ _ _ _ _ _ _
      | exact ih3 _ _ _ _ _ _ _ _ _ _ _ _ _
      | exact ih4 _ _ _ _ _ _ _ _ _ _ _ _ _
      | exact LeO.none _
      | refine LeO.ite ?_ ?_
      | refine LeO.bind ?_ (fun _ => ?_)
    · intro y0 y1 y2 y3 y4 y5 y6 y7 y8 y9 y10 y11 y12
      unfold msg_Decode.j3
      repeat' first
      | (with_reducible exact ih0 _ _ _ _ _ _ _ _ _ _ _ _ _ _ _ _)
      | (with_reducible exact ih1 _ _ _ _ _ _ _ _ _ _ _ _ _ _ _)
      | (with_reducible exact ih2 _ _ _ _ _ _ _ _ _ _ _ _ _ _)
      | (with_reducible exact ih3 _ _ _ _ _ _ _ _ _ _ _ _ _)
      | (with_reducible exact ih4 _ _ _ _ _ _ _ _ _ _ _ _ _)
      | (with_reducible exact LeO.refl _)
      | (with_reducible exact LeO.none _)
      | (with_reducible refine LeO.ite ?_ ?_)
      | (with_reducible refine LeO.bind ?_ (fun _ => ?_))
      | exact ih0 _ _ _ _ _ _ _ _ _ _ _ _ _ _ _ _
      | exact ih1 _ _ _ _ _ _ _ _ _ _ _ _ _ _ _
      | exact ih2 _ _ _ _ _ _ _ _ _ _ _ _ _ _
      | exact ih3 _ _ _ _ _ _ _ _ _ _ _ _ _
      | exact ih4 _ _ _ _ _ _ _ _ _ _ _ _ _
      | exact LeO.none _
      | refine LeO.ite ?_ ?_
      | refine LeO.bind ?_ (fun _ => ?_)
    · intro y0 y1 y2 y3 y4 y5 y6 y7 y8 y9 y10 y11 y12
      unfold msg_Decode.j4
      repeat' first
      | (with_reducible exact ih0 _ _ _ _ _ _ _ _ _ _ _ _ _ _ _ _)
      | (with_reducible exact ih1 _ _ _ _ _ _ _ _ _ _ _ _ _ _ _)
      | (with_reducible exact ih2 _ _ _ _ _ _ _ _ _ _ _ _ _ _)
      | (with_reducible exact ih3 _ _ _ _ _ _ _ _ _ _ _ _ _)
      | (with_reducible exact ih4 _ _ _ _ _ _ _ _ _ _ _ _ _)
      | (with_reducible exact LeO.refl _)
      | (with_reducible exact LeO.none _)
      | (with_reducible refine LeO.ite ?_ ?_)
      | (with_reducible refine LeO.bind ?_ (fun _ => ?_))
      | exact ih0 _ _ _ _ _ _ _ _ _ _ _ _ _ _ _ _
      | exact ih1 _ _ _ _ _ _ _ _ _ _ _ _ _ _ _
      | exact ih2 _ _ _ _ _ _ _ _ _ _ _ _ _ _
      | exact ih3 _ _ _ _ _ _ _ _ _ _ _ _ _
      | exact ih4 _ _ _ _ _ _ _ _ _ _ _ _ _
      | exact LeO.none _
      | refine LeO.ite ?_ ?_
      | refine LeO.bind ?_ (fun _ => ?_)
theorem msg_Decode.mono : ∀ a0 k, LeO (msg_Decode.f k a0) (msg_Decode.f (k + 1) a0) := by
  intro a0 k
  obtain ⟨ih0, ih1, ih2, ih3, ih4⟩ := msg_Decode.mono_l k
  unfold msg_Decode.f
  repeat' first
      | (with_reducible exact ih0 _ _ _ _ _ _ _ _ _ _ _ _ _ _ _ _)
      | (with_reducible exact ih1 _ _ _ _ _ _ _ _ _ _ _ _ _ _ _)
      | (with_reducible exact ih2 _ _ _ _ _ _ _ _ _ _ _ _ _ _)
      | (with_reducible exact ih3 _ _ _ _ _ _ _ _ _ _ _ _ _)
      | (with_reducible exact ih4 _ _ _ _ _ _ _ _ _ _ _ _ _)
      | (with_reducible exact LeO.refl _)
      | (with_reducible exact LeO.none _)
      | (with_reducible refine LeO.ite ?_ ?_)
      | (with_reducible refine LeO.bind ?_ (fun _ => ?_))
      | exact ih0 _ _ _ _ _ _ _ _ _ _ _ _ _ _ _ _
      | exact ih1 _ _ _ _ _ _ _ _ _ _ _ _ _ _ _
      | exact ih2 _ _ _ _ _ _ _ _ _ _ _ _ _ _
      | exact ih3 _ _ _ _ _ _ _ _ _ _ _ _ _
      | exact ih4 _ _ _ _ _ _ _ _ _ _ _ _ _
      | exact LeO.none _
      | refine LeO.ite ?_ ?_
      | refine LeO.bind ?_ (fun _ => ?_)
set_option maxHeartbeats 8000000 in
set_option maxRecDepth 100000 in
theorem msg_Decode.calls (k : Nat) (A0 : Option Addr) (c0 : Nat) (l0 : List Int) (r1 : Int) (r2 : Int) (r3 : Int) (r4 : Int) (r5 : Int) (r6 : Int) (r7 : Int) (r8 : Int) (r9 : ByteArray) (r10 : ByteArray) (r11 : Bool) (r12 : Int) (r13 : Int) (w : World) (hr0 : Kd.C (Kd.int .u8) w A0 l0.length l0) (hc0 : l0.length ≤ c0) (h : msg_Decode.f k l0 = some (r1, r2, r3, r4, r5, r6, r7, r8, r9, r10, r11, r12, r13)) :
    Calls Try.prog 33 #[.slice A0 l0.length c0] w fun e w' => e = .returned (.tuple #[.agg #[.int .i64 r1, .int .i64 r2, .int .i64 r3, .int .u64 r4, .int .i64 r5, .int .u64 r6, .int .i64 r7, .int .i64 r8, .string r9, .string r10, .bool r11, .int .i64 r12], .int .i64 r13]) ∧ Below w.heap.size w w' := by
  have hu47 := Try.underlying47
  have hu28 := Try.underlying28
  have HR0 := Aside0.mk hr0
  have HC0 := Aside0.mk hc0
  clear hr0 hc0
  have HB := Aside0.mk (Below.refl w.heap.size w)
  have H : ((num_Read.f l0).bind fun t177 => ((num_Reader_Num.f t177 10).bind fun bt179 => ((num_Reader_Num.f bt179.2 63).bind fun bt181 => ((num_Reader_Num.f bt181.2 63).bind fun bt183 => ((num_Reader_Tid.f bt183.2).bind fun bt186 => ((msg_has.f (wrap64 (bt179.1))).bind fun bt189 => (if bt189.1 = true then ((num_Reader_Num.f bt186.2.2 1099511627776).bind fun bt193 => (msg_Decode.j0 k bt189.2.1 bt189.2.2.1 bt189.2.2.2 bt193.2 (wrap64 (bt179.1)) (wrap64 (bt181.1)) (wrap64 (bt183.1)) bt186.1 bt186.2.1 bt193.1 0 0 (⟨#[]⟩ : ByteArray) (⟨#[]⟩ : ByteArray) false 0)) else (msg_Decode.j0 k bt189.2.1 bt189.2.2.1 bt189.2.2.2 bt186.2.2 (wrap64 (bt179.1)) (wrap64 (bt181.1)) (wrap64 (bt183.1)) bt186.1 bt186.2.1 0 0 0 (⟨#[]⟩ : ByteArray) (⟨#[]⟩ : ByteArray) false 0)))))))) = some (r1, r2, r3, r4, r5, r6, r7, r8, r9, r10, r11, r12, r13) := h
  clear h
  replace H := Option.bind_eq_some_iff.mp H
  obtain ⟨t177, A20, H⟩ := H
  replace H : ((num_Reader_Num.f t177 10).bind fun bt179 => ((num_Reader_Num.f bt179.2 63).bind fun bt181 => ((num_Reader_Num.f bt181.2 63).bind fun bt183 => ((num_Reader_Tid.f bt183.2).bind fun bt186 => ((msg_has.f (wrap64 (bt179.1))).bind fun bt189 => (if bt189.1 = true then ((num_Reader_Num.f bt186.2.2 1099511627776).bind fun bt193 => (msg_Decode.j0 k bt189.2.1 bt189.2.2.1 bt189.2.2.2 bt193.2 (wrap64 (bt179.1)) (wrap64 (bt181.1)) (wrap64 (bt183.1)) bt186.1 bt186.2.1 bt193.1 0 0 (⟨#[]⟩ : ByteArray) (⟨#[]⟩ : ByteArray) false 0)) else (msg_Decode.j0 k bt189.2.1 bt189.2.2.1 bt189.2.2.2 bt186.2.2 (wrap64 (bt179.1)) (wrap64 (bt181.1)) (wrap64 (bt183.1)) bt186.1 bt186.2.1 0 0 0 (⟨#[]⟩ : ByteArray) (⟨#[]⟩ : ByteArray) false 0))))))) = some (r1, r2, r3, r4, r5, r6, r7, r8, r9, r10, r11, r12, r13) := H
  have A2 := Aside0.mk A20
  clear A20
  replace H := Option.bind_eq_some_iff.mp H
  obtain ⟨⟨t179, t180⟩, A30, H⟩ := H
  replace H : ((num_Reader_Num.f t180 63).bind fun bt181 => ((num_Reader_Num.f bt181.2 63).bind fun bt183 => ((num_Reader_Tid.f bt183.2).bind fun bt186 => ((msg_has.f (wrap64 (t179))).bind fun bt189 => (if bt189.1 = true then ((num_Reader_Num.f bt186.2.2 1099511627776).bind fun bt193 => (msg_Decode.j0 k bt189.2.1 bt189.2.2.1 bt189.2.2.2 bt193.2 (wrap64 (t179)) (wrap64 (bt181.1)) (wrap64 (bt183.1)) bt186.1 bt186.2.1 bt193.1 0 0 (⟨#[]⟩ : ByteArray) (⟨#[]⟩ : ByteArray) false 0)) else (msg_Decode.j0 k bt189.2.1 bt189.2.2.1 bt189.2.2.2 bt186.2.2 (wrap64 (t179)) (wrap64 (bt181.1)) (wrap64 (bt183.1)) bt186.1 bt186.2.1 0 0 0 (⟨#[]⟩ : ByteArray) (⟨#[]⟩ : ByteArray) false 0)))))) = some (r1, r2, r3, r4, r5, r6, r7, r8, r9, r10, r11, r12, r13) := H
  have A3 := Aside0.mk A30
  clear A30
  replace H := Option.bind_eq_some_iff.mp H
  obtain ⟨⟨t181, t182⟩, A40, H⟩ := H
  replace H : ((num_Reader_Num.f t182 63).bind fun bt183 => ((num_Reader_Tid.f bt183.2).bind fun bt186 => ((msg_has.f (wrap64 (t179))).bind fun bt189 => (if bt189.1 = true then ((num_Reader_Num.f bt186.2.2 1099511627776).bind fun bt193 => (msg_Decode.j0 k bt189.2.1 bt189.2.2.1 bt189.2.2.2 bt193.2 (wrap64 (t179)) (wrap64 (t181)) (wrap64 (bt183.1)) bt186.1 bt186.2.1 bt193.1 0 0 (⟨#[]⟩ : ByteArray) (⟨#[]⟩ : ByteArray) false 0)) else (msg_Decode.j0 k bt189.2.1 bt189.2.2.1 bt189.2.2.2 bt186.2.2 (wrap64 (t179)) (wrap64 (t181)) (wrap64 (bt183.1)) bt186.1 bt186.2.1 0 0 0 (⟨#[]⟩ : ByteArray) (⟨#[]⟩ : ByteArray) false 0))))) = some (r1, r2, r3, r4, r5, r6, r7, r8, r9, r10, r11, r12, r13) := H
  have A4 := Aside0.mk A40
  clear A40
  replace H := Option.bind_eq_some_iff.mp H
  obtain ⟨⟨t183, t184⟩, A50, H⟩ := H
  replace H : ((num_Reader_Tid.f t184).bind fun bt186 => ((msg_has.f (wrap64 (t179))).bind fun bt189 => (if bt189.1 = true then ((num_Reader_Num.f bt186.2.2 1099511627776).bind fun bt193 => (msg_Decode.j0 k bt189.2.1 bt189.2.2.1 bt189.2.2.2 bt193.2 (wrap64 (t179)) (wrap64 (t181)) (wrap64 (t183)) bt186.1 bt186.2.1 bt193.1 0 0 (⟨#[]⟩ : ByteArray) (⟨#[]⟩ : ByteArray) false 0)) else (msg_Decode.j0 k bt189.2.1 bt189.2.2.1 bt189.2.2.2 bt186.2.2 (wrap64 (t179)) (wrap64 (t181)) (wrap64 (t183)) bt186.1 bt186.2.1 0 0 0 (⟨#[]⟩ : ByteArray) (⟨#[]⟩ : ByteArray) false 0)))) = some (r1, r2, r3, r4, r5, r6, r7, r8, r9, r10, r11, r12, r13) := H
  have A5 := Aside0.mk A50
  clear A50
  replace H := Option.bind_eq_some_iff.mp H
  obtain ⟨⟨t186, t187, t188⟩, A60, H⟩ := H
  replace H : ((msg_has.f (wrap64 (t179))).bind fun bt189 => (if bt189.1 = true then ((num_Reader_Num.f t188 1099511627776).bind fun bt193 => (msg_Decode.j0 k bt189.2.1 bt189.2.2.1 bt189.2.2.2 bt193.2 (wrap64 (t179)) (wrap64 (t181)) (wrap64 (t183)) t186 t187 bt193.1 0 0 (⟨#[]⟩ : ByteArray) (⟨#[]⟩ : ByteArray) false 0)) else (msg_Decode.j0 k bt189.2.1 bt189.2.2.1 bt189.2.2.2 t188 (wrap64 (t179)) (wrap64 (t181)) (wrap64 (t183)) t186 t187 0 0 0 (⟨#[]⟩ : ByteArray) (⟨#[]⟩ : ByteArray) false 0))) = some (r1, r2, r3, r4, r5, r6, r7, r8, r9, r10, r11, r12, r13) := H
  have A6 := Aside0.mk A60
  clear A60
  replace H := Option.bind_eq_some_iff.mp H
  obtain ⟨⟨t189, t190, t191, t192⟩, A70, H⟩ := H
  replace H : (if t189 = true then ((num_Reader_Num.f t188 1099511627776).bind fun bt193 => (msg_Decode.j0 k t190 t191 t192 bt193.2 (wrap64 (t179)) (wrap64 (t181)) (wrap64 (t183)) t186 t187 bt193.1 0 0 (⟨#[]⟩ : ByteArray) (⟨#[]⟩ : ByteArray) false 0)) else (msg_Decode.j0 k t190 t191 t192 t188 (wrap64 (t179)) (wrap64 (t181)) (wrap64 (t183)) t186 t187 0 0 0 (⟨#[]⟩ : ByteArray) (⟨#[]⟩ : ByteArray) false 0)) = some (r1, r2, r3, r4, r5, r6, r7, r8, r9, r10, r11, r12, r13) := H
  have A7 := Aside0.mk A70
  clear A70
  have HC8 := Aside0.mk H
  clear H
  go_enter Try.func33, Try.ntmps33
  go_upto_if 33 with (first | ((with_reducible refine gate_dst (N := 2) rfl ?_); refine box_event ?hg (N := 2) ?hd (cs := #[.int .i64 0, .int .i64 0, .int .i64 0, .int .u64 0, .int .i64 0, .int .u64 0, .int .i64 0, .int .i64 0, .string (⟨#[]⟩ : ByteArray), .string (⟨#[]⟩ : ByteArray), .bool false, .int .i64 0]) (t := 47) ?hr ?_; (case hd => rfl); (case hg => rfl); (case hr => first | (go_simp; done) | (go_simp; rfl)); intro gb176 hg w9 hbox hb; have n0_ := Aside0.mk (below_step (by repeat (first | (with_reducible first | exact HB.out | apply below_alloc | apply pw_below_drewN | apply below_drew1) | exact HB.out)) hb); have n1_ := Aside0.mk (hbox); have n2_ := Aside0.mk ((by rw [hg]; exact (below_size (by repeat (first | (with_reducible first | exact HB.out | apply below_alloc | apply pw_below_drewN | apply below_drew1) | exact HB.out))) : w.heap.size ≤ gb176)); have n3_ := Aside0.mk ((by rw [hg]; exact (below_size (by repeat (first | (with_reducible first | exact HB.out | apply below_alloc | apply pw_below_drewN | apply below_drew1) | exact HB.out))) : w.heap.size ≤ gb176)); clear HB; have HB := n0_; have BK176 := n1_; have GW176 := n2_; have GE176 := n3_; clear n0_ n1_ n2_ n3_; clear hb hbox hg) | ((with_reducible refine gate_callee (f := 21) rfl ?_); refine goesL_ (some 11) rfl rfl Try.func21 (by kernel_rfl) rfl #[.slice A0 l0.length c0] rfl (by (try simp only [List.map_toArray, List.map_cons, List.map_nil]); first | done | rfl | (simp only [List.length_drop, List.length_take]; rfl)) ?_; (with_reducible refine (num_Read.calls _ _ l0 t177 w _ ?side1 ?side2 ?side3 A2.out).mono ?_); (case side1 => repeat (first | (with_reducible first | exact HB.out | apply below_alloc | apply pw_below_drewN | apply below_drew1 | refine below_set ?_ GE176.out) | exact HB.out)); (case side2 => exact HR0.out); (case side3 => exact HC0.out); rintro e w10 ⟨g178, rfl, hi, hb, hb2⟩; refine ⟨_, rfl, ?_⟩; have n0_ := Aside0.mk (blk_below (g := gb176) (o := .cells #[.int .i64 0, .int .i64 0, .int .i64 0, .int .u64 0, .int .i64 0, .int .u64 0, .int .i64 0, .int .i64 0, .string (⟨#[]⟩ : ByteArray), .string (⟨#[]⟩ : ByteArray), .bool false, .int .i64 0] 47 (0, 0)) (by (with_reducible repeat (first | refine blk_drewN ?_ _ | refine blk_drew ?_ | refine blk_alloc ?_ _)); exact BK176.out) hb2); have n1_ := Aside0.mk (hb); have n2_ := Aside0.mk (hi); have n3_ := Aside0.mk (IsS64.ne_blk hi (blk_below (g := gb176) (o := .cells #[.int .i64 0, .int .i64 0, .int .i64 0, .int .u64 0, .int .i64 0, .int .u64 0, .int .i64 0, .int .i64 0, .string (⟨#[]⟩ : ByteArray), .string (⟨#[]⟩ : ByteArray), .bool false, .int .i64 0] 47 (0, 0)) (by (with_reducible repeat (first | refine blk_drewN ?_ _ | refine blk_drew ?_ | refine blk_alloc ?_ _)); exact BK176.out) hb2) (by decide)); have n4_ := Aside0.mk (Ne.symm (IsS64.ne_blk hi (blk_below (g := gb176) (o := .cells #[.int .i64 0, .int .i64 0, .int .i64 0, .int .u64 0, .int .i64 0, .int .u64 0, .int .i64 0, .int .i64 0, .string (⟨#[]⟩ : ByteArray), .string (⟨#[]⟩ : ByteArray), .bool false, .int .i64 0] 47 (0, 0)) (by (with_reducible repeat (first | refine blk_drewN ?_ _ | refine blk_drew ?_ | refine blk_alloc ?_ _)); exact BK176.out) hb2) (by decide))); clear BK176; clear HB; have BK176 := n0_; have HB := n1_; have HI178 := n2_; have NB178_176 := n3_; have NB176_178 := n4_; clear n0_ n1_ n2_ n3_ n4_; (try clear hb); (try clear hb2); (try clear hk); (try clear hi)) | ((with_reducible refine gate_callee (f := 23) rfl ?_); refine goesL_ (some 13) rfl rfl Try.func23 (by kernel_rfl) rfl #[.pointer (some ⟨g178, 0, none⟩), .int .u64 10] rfl (by (try simp only [List.map_toArray, List.map_cons, List.map_nil]); first | done | rfl | (simp only [List.length_drop, List.length_take]; rfl)) ?_; (with_reducible refine (num_Reader_Num.calls g178 t177 10 t179 t180 w _ ?side1 ?side2 A3.out).mono ?_); (case side1 => repeat (first | (with_reducible first | exact HI178.out | apply IsS64.alloc | apply IsS64.drewN | apply IsS64.drew | apply IsS64.set_0 | refine IsS64.far ?_ NB178_176.out _) | exact HI178.out)); (case side2 => repeat (first | (with_reducible first | exact HB.out | apply below_alloc | apply pw_below_drewN | apply below_drew1 | refine below_set ?_ (IsS64.ge HI178.out) | refine below_set ?_ GE176.out) | exact HB.out)); rintro e w11 ⟨rfl, hi, hb, hk⟩; refine ⟨_, rfl, ?_⟩; have n0_ := Aside0.mk (KeepBut.blk hk (g' := gb176) (o := .cells #[.int .i64 0, .int .i64 0, .int .i64 0, .int .u64 0, .int .i64 0, .int .u64 0, .int .i64 0, .int .i64 0, .string (⟨#[]⟩ : ByteArray), .string (⟨#[]⟩ : ByteArray), .bool false, .int .i64 0] 47 (0, 0)) (by (with_reducible repeat (first | refine blk_drewN ?_ _ | refine blk_drew ?_ | refine blk_alloc ?_ _)); exact BK176.out) NB176_178.out (by simp)); have n1_ := Aside0.mk (hb); have n2_ := Aside0.mk (hi); clear BK176; clear HB; clear HI178; have BK176 := n0_; have HB := n1_; have HI178 := n2_; clear n0_ n1_ n2_; (try clear hb); (try clear hb2); (try clear hk); (try clear hi)) | ((with_reducible refine gate_callee (f := 23) rfl ?_); refine goesL_ (some 16) rfl rfl Try.func23 (by kernel_rfl) rfl #[.pointer (some ⟨g178, 0, none⟩), .int .u64 63] rfl (by (try simp only [List.map_toArray, List.map_cons, List.map_nil]); first | done | rfl | (simp only [List.length_drop, List.length_take]; rfl)) ?_; (with_reducible refine (num_Reader_Num.calls g178 t180 63 t181 t182 w _ ?side1 ?side2 A4.out).mono ?_); (case side1 => repeat (first | (with_reducible first | exact HI178.out | apply IsS64.alloc | apply IsS64.drewN | apply IsS64.drew | apply IsS64.set_0 | refine IsS64.far ?_ NB178_176.out _) | exact HI178.out)); (case side2 => repeat (first | (with_reducible first | exact HB.out | apply below_alloc | apply pw_below_drewN | apply below_drew1 | refine below_set ?_ (IsS64.ge HI178.out) | refine below_set ?_ GE176.out) | exact HB.out)); rintro e w12 ⟨rfl, hi, hb, hk⟩; refine ⟨_, rfl, ?_⟩; have n0_ := Aside0.mk (KeepBut.blk hk (g' := gb176) (o := .cells #[.int .i64 0, .int .i64 0, .int .i64 0, .int .u64 0, .int .i64 0, .int .u64 0, .int .i64 0, .int .i64 0, .string (⟨#[]⟩ : ByteArray), .string (⟨#[]⟩ : ByteArray), .bool false, .int .i64 0] 47 (0, 0)) (by (with_reducible repeat (first | refine blk_drewN ?_ _ | refine blk_drew ?_ | refine blk_alloc ?_ _)); exact BK176.out) NB176_178.out (by simp)); have n1_ := Aside0.mk (hb); have n2_ := Aside0.mk (hi); clear BK176; clear HB; clear HI178; have BK176 := n0_; have HB := n1_; have HI178 := n2_; clear n0_ n1_ n2_; (try clear hb); (try clear hb2); (try clear hk); (try clear hi)) | ((with_reducible refine gate_callee (f := 23) rfl ?_); refine goesL_ (some 19) rfl rfl Try.func23 (by kernel_rfl) rfl #[.pointer (some ⟨g178, 0, none⟩), .int .u64 63] rfl (by (try simp only [List.map_toArray, List.map_cons, List.map_nil]); first | done | rfl | (simp only [List.length_drop, List.length_take]; rfl)) ?_; (with_reducible refine (num_Reader_Num.calls g178 t182 63 t183 t184 w _ ?side1 ?side2 A5.out).mono ?_); (case side1 => repeat (first | (with_reducible first | exact HI178.out | apply IsS64.alloc | apply IsS64.drewN | apply IsS64.drew | apply IsS64.set_0 | refine IsS64.far ?_ NB178_176.out _) | exact HI178.out)); (case side2 => repeat (first | (with_reducible first | exact HB.out | apply below_alloc | apply pw_below_drewN | apply below_drew1 | refine below_set ?_ (IsS64.ge HI178.out) | refine below_set ?_ GE176.out) | exact HB.out)); rintro e w13 ⟨rfl, hi, hb, hk⟩; refine ⟨_, rfl, ?_⟩; have n0_ := Aside0.mk (KeepBut.blk hk (g' := gb176) (o := .cells #[.int .i64 0, .int .i64 0, .int .i64 0, .int .u64 0, .int .i64 0, .int .u64 0, .int .i64 0, .int .i64 0, .string (⟨#[]⟩ : ByteArray), .string (⟨#[]⟩ : ByteArray), .bool false, .int .i64 0] 47 (0, 0)) (by (with_reducible repeat (first | refine blk_drewN ?_ _ | refine blk_drew ?_ | refine blk_alloc ?_ _)); exact BK176.out) NB176_178.out (by simp)); have n1_ := Aside0.mk (hb); have n2_ := Aside0.mk (hi); clear BK176; clear HB; clear HI178; have BK176 := n0_; have HB := n1_; have HI178 := n2_; clear n0_ n1_ n2_; (try clear hb); (try clear hb2); (try clear hk); (try clear hi)) | ((with_reducible refine gate_dst (N := 5) rfl ?_); refine box_event ?hg (N := 5) ?hd (cs := #[.int .i64 0, .int .i64 0, .int .i64 0, .int .u64 0, .int .i64 0, .int .u64 0, .int .i64 0, .int .i64 0, .string (⟨#[]⟩ : ByteArray), .string (⟨#[]⟩ : ByteArray), .bool false, .int .i64 0]) (t := 47) ?hr ?_; (case hd => rfl); (case hg => rfl); (case hr => first | (go_simp; done) | (go_simp; rfl)); intro gb185 hg w14 hbox hb; have n0_ := Aside0.mk (blk_below (g := gb176) (o := .cells #[.int .i64 0, .int .i64 0, .int .i64 0, .int .u64 0, .int .i64 0, .int .u64 0, .int .i64 0, .int .i64 0, .string (⟨#[]⟩ : ByteArray), .string (⟨#[]⟩ : ByteArray), .bool false, .int .i64 0] 47 (0, 0)) (by (with_reducible repeat (first | refine blk_drewN ?_ _ | refine blk_drew ?_ | refine blk_alloc ?_ _)); exact BK176.out) hb); have n1_ := Aside0.mk (IsS64.below (by repeat (first | (with_reducible first | exact HI178.out | apply IsS64.alloc | apply IsS64.drewN | apply IsS64.drew | apply IsS64.set_0 | refine IsS64.far ?_ NB178_176.out _) | exact HI178.out)) hb); have n2_ := Aside0.mk (below_step (by repeat (first | (with_reducible first | exact HB.out | apply below_alloc | apply pw_below_drewN | apply below_drew1 | refine below_set ?_ (IsS64.ge HI178.out) | refine below_set ?_ GE176.out) | exact HB.out)) hb); have n3_ := Aside0.mk (hbox); have n4_ := Aside0.mk ((by rw [hg]; exact (below_size (by repeat (first | (with_reducible first | exact HB.out | apply below_alloc | apply pw_below_drewN | apply below_drew1 | refine below_set ?_ (IsS64.ge HI178.out) | refine below_set ?_ GE176.out) | exact HB.out))) : w.heap.size ≤ gb185)); have n5_ := Aside0.mk ((by rw [hg]; exact (below_size (by repeat (first | (with_reducible first | exact HB.out | apply below_alloc | apply pw_below_drewN | apply below_drew1 | refine below_set ?_ (IsS64.ge HI178.out) | refine below_set ?_ GE176.out) | exact HB.out))) : w.heap.size ≤ gb185)); have n6_ := Aside0.mk ((by rw [hg]; exact Nat.ne_of_lt (blk_lt (g := gb176) (o := .cells #[.int .i64 0, .int .i64 0, .int .i64 0, .int .u64 0, .int .i64 0, .int .u64 0, .int .i64 0, .int .i64 0, .string (⟨#[]⟩ : ByteArray), .string (⟨#[]⟩ : ByteArray), .bool false, .int .i64 0] 47 (0, 0)) (by (with_reducible repeat (first | refine blk_drewN ?_ _ | refine blk_drew ?_ | refine blk_alloc ?_ _)); exact BK176.out)) : gb176 ≠ gb185)); have n7_ := Aside0.mk ((by rw [hg]; exact Nat.ne_of_gt (blk_lt (g := gb176) (o := .cells #[.int .i64 0, .int .i64 0, .int .i64 0, .int .u64 0, .int .i64 0, .int .u64 0, .int .i64 0, .int .i64 0, .string (⟨#[]⟩ : ByteArray), .string (⟨#[]⟩ : ByteArray), .bool false, .int .i64 0] 47 (0, 0)) (by (with_reducible repeat (first | refine blk_drewN ?_ _ | refine blk_drew ?_ | refine blk_alloc ?_ _)); exact BK176.out)) : gb185 ≠ gb176)); have n8_ := Aside0.mk ((by rw [hg]; exact Nat.ne_of_lt (IsS64.lt (show IsS64 w _ g178 t184 from by repeat (first | (with_reducible first | exact HI178.out | apply IsS64.alloc | apply IsS64.drewN | apply IsS64.drew | apply IsS64.set_0 | refine IsS64.far ?_ NB178_176.out _) | exact HI178.out))) : g178 ≠ gb185)); have n9_ := Aside0.mk ((by rw [hg]; exact Nat.ne_of_gt (IsS64.lt (show IsS64 w _ g178 t184 from by repeat (first | (with_reducible first | exact HI178.out | apply IsS64.alloc | apply IsS64.drewN | apply IsS64.drew | apply IsS64.set_0 | refine IsS64.far ?_ NB178_176.out _) | exact HI178.out))) : gb185 ≠ g178)); clear BK176; clear HI178; clear HB; have BK176 := n0_; have HI178 := n1_; have HB := n2_; have BK185 := n3_; have GW185 := n4_; have GE185 := n5_; have NB176_185 := n6_; have NB185_176 := n7_; have NB178_185 := n8_; have NB185_178 := n9_; clear n0_ n1_ n2_ n3_ n4_ n5_ n6_ n7_ n8_ n9_; clear hb hbox hg; have hnb15 := NB185_176.out; have hnc15 := NB176_185.out; have hnb16 := NB185_178.out; have hnc16 := NB178_185.out; have hcz17_0 : w14.cell? ⟨gb185, 0, none⟩ = some (.int .i64 0) := (blk_cell BK185.out 0).trans rfl; have hcz17_1 : w14.cell? ⟨gb185, 1, none⟩ = some (.int .i64 0) := (blk_cell BK185.out 1).trans rfl; have hcz17_2 : w14.cell? ⟨gb185, 2, none⟩ = some (.int .i64 0) := (blk_cell BK185.out 2).trans rfl; have hcz17_3 : w14.cell? ⟨gb185, 3, none⟩ = some (.int .u64 0) := (blk_cell BK185.out 3).trans rfl; have hcz17_4 : w14.cell? ⟨gb185, 4, none⟩ = some (.int .i64 0) := (blk_cell BK185.out 4).trans rfl; have hcz17_5 : w14.cell? ⟨gb185, 5, none⟩ = some (.int .u64 0) := (blk_cell BK185.out 5).trans rfl; have hcz17_6 : w14.cell? ⟨gb185, 6, none⟩ = some (.int .i64 0) := (blk_cell BK185.out 6).trans rfl; have hcz17_7 : w14.cell? ⟨gb185, 7, none⟩ = some (.int .i64 0) := (blk_cell BK185.out 7).trans rfl; have hcz17_8 : w14.cell? ⟨gb185, 8, none⟩ = some (.string (⟨#[]⟩ : ByteArray)) := (blk_cell BK185.out 8).trans rfl; have hcz17_9 : w14.cell? ⟨gb185, 9, none⟩ = some (.string (⟨#[]⟩ : ByteArray)) := (blk_cell BK185.out 9).trans rfl; have hcz17_10 : w14.cell? ⟨gb185, 10, none⟩ = some (.bool false) := (blk_cell BK185.out 10).trans rfl; have hcz17_11 : w14.cell? ⟨gb185, 11, none⟩ = some (.int .i64 0) := (blk_cell BK185.out 11).trans rfl; have hfz17_0 := blk_frozen BK185.out 0; have hfz17_1 := blk_frozen BK185.out 1; have hfz17_2 := blk_frozen BK185.out 2; have hfz17_3 := blk_frozen BK185.out 3; have hfz17_4 := blk_frozen BK185.out 4; have hfz17_5 := blk_frozen BK185.out 5; have hfz17_6 := blk_frozen BK185.out 6; have hfz17_7 := blk_frozen BK185.out 7; have hfz17_8 := blk_frozen BK185.out 8; have hfz17_9 := blk_frozen BK185.out 9; have hfz17_10 := blk_frozen BK185.out 10; have hfz17_11 := blk_frozen BK185.out 11) | ((with_reducible refine gate_callee (f := 22) rfl ?_); refine goesL_ (some 23) rfl rfl Try.func22 (by kernel_rfl) rfl #[.pointer (some ⟨g178, 0, none⟩)] rfl (by (try simp only [List.map_toArray, List.map_cons, List.map_nil]); first | done | rfl | (simp only [List.length_drop, List.length_take]; rfl)) ?_; (with_reducible refine (num_Reader_Tid.calls g178 t184 t186 t187 t188 w _ ?side1 ?side2 A6.out).mono ?_); (case side1 => repeat (first | (with_reducible first | exact HI178.out | apply IsS64.alloc | apply IsS64.drewN | apply IsS64.drew | apply IsS64.set_0 | refine IsS64.far ?_ NB178_176.out _ | refine IsS64.far ?_ NB178_185.out _) | exact HI178.out)); (case side2 => repeat (first | (with_reducible first | exact HB.out | apply below_alloc | apply pw_below_drewN | apply below_drew1 | refine below_set ?_ (IsS64.ge HI178.out) | refine below_set ?_ GE176.out | refine below_set ?_ GE185.out) | exact HB.out)); rintro e w18 ⟨rfl, hi, hb, hk⟩; refine ⟨_, rfl, ?_⟩; have n0_ := Aside0.mk (KeepBut.blk hk (g' := gb176) (o := .cells #[.int .i64 0, .int .i64 0, .int .i64 0, .int .u64 0, .int .i64 0, .int .u64 0, .int .i64 0, .int .i64 0, .string (⟨#[]⟩ : ByteArray), .string (⟨#[]⟩ : ByteArray), .bool false, .int .i64 0] 47 (0, 0)) (by (with_reducible repeat (first | refine blk_drewN ?_ _ | refine blk_drew ?_ | refine blk_alloc ?_ _)); refine blk_far ?_ NB176_185.out _; (with_reducible repeat (first | refine blk_drewN ?_ _ | refine blk_drew ?_ | refine blk_alloc ?_ _)); refine blk_far ?_ NB176_185.out _; (with_reducible repeat (first | refine blk_drewN ?_ _ | refine blk_drew ?_ | refine blk_alloc ?_ _)); refine blk_far ?_ NB176_185.out _; (with_reducible repeat (first | refine blk_drewN ?_ _ | refine blk_drew ?_ | refine blk_alloc ?_ _)); refine blk_far ?_ NB176_185.out _; (with_reducible repeat (first | refine blk_drewN ?_ _ | refine blk_drew ?_ | refine blk_alloc ?_ _)); refine blk_far ?_ NB176_185.out _; (with_reducible repeat (first | refine blk_drewN ?_ _ | refine blk_drew ?_ | refine blk_alloc ?_ _)); refine blk_far ?_ NB176_185.out _; (with_reducible repeat (first | refine blk_drewN ?_ _ | refine blk_drew ?_ | refine blk_alloc ?_ _)); refine blk_far ?_ NB176_185.out _; (with_reducible repeat (first | refine blk_drewN ?_ _ | refine blk_drew ?_ | refine blk_alloc ?_ _)); refine blk_far ?_ NB176_185.out _; (with_reducible repeat (first | refine blk_drewN ?_ _ | refine blk_drew ?_ | refine blk_alloc ?_ _)); refine blk_far ?_ NB176_185.out _; (with_reducible repeat (first | refine blk_drewN ?_ _ | refine blk_drew ?_ | refine blk_alloc ?_ _)); refine blk_far ?_ NB176_185.out _; (with_reducible repeat (first | refine blk_drewN ?_ _ | refine blk_drew ?_ | refine blk_alloc ?_ _)); refine blk_far ?_ NB176_185.out _; (with_reducible repeat (first | refine blk_drewN ?_ _ | refine blk_drew ?_ | refine blk_alloc ?_ _)); refine blk_far ?_ NB176_185.out _; (with_reducible repeat (first | refine blk_drewN ?_ _ | refine blk_drew ?_ | refine blk_alloc ?_ _)); exact BK176.out) NB176_178.out (by simp)); have n1_ := Aside0.mk (KeepBut.blk hk (g' := gb185) (o := .cells #[.int .i64 (wrap64 (t179)), .int .i64 (wrap64 (t181)), .int .i64 (wrap64 (t183)), .int .u64 0, .int .i64 0, .int .u64 0, .int .i64 0, .int .i64 0, .string (⟨#[]⟩ : ByteArray), .string (⟨#[]⟩ : ByteArray), .bool false, .int .i64 0] 47 (0, 0)) (by (with_reducible repeat (first | refine blk_drewN ?_ _ | refine blk_drew ?_ | refine blk_alloc ?_ _)); refine blk_put (cs := #[.int .i64 (wrap64 (t179)), .int .i64 (wrap64 (t181)), .int .i64 (wrap64 (t183)), .int .u64 0, .int .i64 0, .int .u64 0, .int .i64 0, .int .i64 0, .string (⟨#[]⟩ : ByteArray), .string (⟨#[]⟩ : ByteArray), .bool false, .int .i64 0]) ?_ 11 _ rfl; (with_reducible repeat (first | refine blk_drewN ?_ _ | refine blk_drew ?_ | refine blk_alloc ?_ _)); refine blk_put (cs := #[.int .i64 (wrap64 (t179)), .int .i64 (wrap64 (t181)), .int .i64 (wrap64 (t183)), .int .u64 0, .int .i64 0, .int .u64 0, .int .i64 0, .int .i64 0, .string (⟨#[]⟩ : ByteArray), .string (⟨#[]⟩ : ByteArray), .bool false, .int .i64 0]) ?_ 10 _ rfl; (with_reducible repeat (first | refine blk_drewN ?_ _ | refine blk_drew ?_ | refine blk_alloc ?_ _)); refine blk_put (cs := #[.int .i64 (wrap64 (t179)), .int .i64 (wrap64 (t181)), .int .i64 (wrap64 (t183)), .int .u64 0, .int .i64 0, .int .u64 0, .int .i64 0, .int .i64 0, .string (⟨#[]⟩ : ByteArray), .string (⟨#[]⟩ : ByteArray), .bool false, .int .i64 0]) ?_ 9 _ rfl; (with_reducible repeat (first | refine blk_drewN ?_ _ | refine blk_drew ?_ | refine blk_alloc ?_ _)); refine blk_put (cs := #[.int .i64 (wrap64 (t179)), .int .i64 (wrap64 (t181)), .int .i64 (wrap64 (t183)), .int .u64 0, .int .i64 0, .int .u64 0, .int .i64 0, .int .i64 0, .string (⟨#[]⟩ : ByteArray), .string (⟨#[]⟩ : ByteArray), .bool false, .int .i64 0]) ?_ 8 _ rfl; (with_reducible repeat (first | refine blk_drewN ?_ _ | refine blk_drew ?_ | refine blk_alloc ?_ _)); refine blk_put (cs := #[.int .i64 (wrap64 (t179)), .int .i64 (wrap64 (t181)), .int .i64 (wrap64 (t183)), .int .u64 0, .int .i64 0, .int .u64 0, .int .i64 0, .int .i64 0, .string (⟨#[]⟩ : ByteArray), .string (⟨#[]⟩ : ByteArray), .bool false, .int .i64 0]) ?_ 7 _ rfl; (with_reducible repeat (first | refine blk_drewN ?_ _ | refine blk_drew ?_ | refine blk_alloc ?_ _)); refine blk_put (cs := #[.int .i64 (wrap64 (t179)), .int .i64 (wrap64 (t181)), .int .i64 (wrap64 (t183)), .int .u64 0, .int .i64 0, .int .u64 0, .int .i64 0, .int .i64 0, .string (⟨#[]⟩ : ByteArray), .string (⟨#[]⟩ : ByteArray), .bool false, .int .i64 0]) ?_ 6 _ rfl; (with_reducible repeat (first | refine blk_drewN ?_ _ | refine blk_drew ?_ | refine blk_alloc ?_ _)); refine blk_put (cs := #[.int .i64 (wrap64 (t179)), .int .i64 (wrap64 (t181)), .int .i64 (wrap64 (t183)), .int .u64 0, .int .i64 0, .int .u64 0, .int .i64 0, .int .i64 0, .string (⟨#[]⟩ : ByteArray), .string (⟨#[]⟩ : ByteArray), .bool false, .int .i64 0]) ?_ 5 _ rfl; (with_reducible repeat (first | refine blk_drewN ?_ _ | refine blk_drew ?_ | refine blk_alloc ?_ _)); refine blk_put (cs := #[.int .i64 (wrap64 (t179)), .int .i64 (wrap64 (t181)), .int .i64 (wrap64 (t183)), .int .u64 0, .int .i64 0, .int .u64 0, .int .i64 0, .int .i64 0, .string (⟨#[]⟩ : ByteArray), .string (⟨#[]⟩ : ByteArray), .bool false, .int .i64 0]) ?_ 4 _ rfl; (with_reducible repeat (first | refine blk_drewN ?_ _ | refine blk_drew ?_ | refine blk_alloc ?_ _)); refine blk_put (cs := #[.int .i64 (wrap64 (t179)), .int .i64 (wrap64 (t181)), .int .i64 (wrap64 (t183)), .int .u64 0, .int .i64 0, .int .u64 0, .int .i64 0, .int .i64 0, .string (⟨#[]⟩ : ByteArray), .string (⟨#[]⟩ : ByteArray), .bool false, .int .i64 0]) ?_ 3 _ rfl; (with_reducible repeat (first | refine blk_drewN ?_ _ | refine blk_drew ?_ | refine blk_alloc ?_ _)); refine blk_put (cs := #[.int .i64 (wrap64 (t179)), .int .i64 (wrap64 (t181)), .int .i64 0, .int .u64 0, .int .i64 0, .int .u64 0, .int .i64 0, .int .i64 0, .string (⟨#[]⟩ : ByteArray), .string (⟨#[]⟩ : ByteArray), .bool false, .int .i64 0]) ?_ 2 _ rfl; (with_reducible repeat (first | refine blk_drewN ?_ _ | refine blk_drew ?_ | refine blk_alloc ?_ _)); refine blk_put (cs := #[.int .i64 (wrap64 (t179)), .int .i64 0, .int .i64 0, .int .u64 0, .int .i64 0, .int .u64 0, .int .i64 0, .int .i64 0, .string (⟨#[]⟩ : ByteArray), .string (⟨#[]⟩ : ByteArray), .bool false, .int .i64 0]) ?_ 1 _ rfl; (with_reducible repeat (first | refine blk_drewN ?_ _ | refine blk_drew ?_ | refine blk_alloc ?_ _)); refine blk_put (cs := #[.int .i64 0, .int .i64 0, .int .i64 0, .int .u64 0, .int .i64 0, .int .u64 0, .int .i64 0, .int .i64 0, .string (⟨#[]⟩ : ByteArray), .string (⟨#[]⟩ : ByteArray), .bool false, .int .i64 0]) ?_ 0 _ rfl; (with_reducible repeat (first | refine blk_drewN ?_ _ | refine blk_drew ?_ | refine blk_alloc ?_ _)); exact BK185.out) NB185_178.out (by simp)); have n2_ := Aside0.mk (hb); have n3_ := Aside0.mk (hi); clear BK176; clear BK185; clear HB; clear HI178; have BK176 := n0_; have BK185 := n1_; have HB := n2_; have HI178 := n3_; clear n0_ n1_ n2_ n3_; (try clear hb); (try clear hb2); (try clear hk); (try clear hi); have hcz19_0 : w18.cell? ⟨gb185, 0, none⟩ = some (.int .i64 (wrap64 (t179))) := (blk_cell BK185.out 0).trans rfl; have hcz19_1 : w18.cell? ⟨gb185, 1, none⟩ = some (.int .i64 (wrap64 (t181))) := (blk_cell BK185.out 1).trans rfl; have hcz19_2 : w18.cell? ⟨gb185, 2, none⟩ = some (.int .i64 (wrap64 (t183))) := (blk_cell BK185.out 2).trans rfl; have hcz19_3 : w18.cell? ⟨gb185, 3, none⟩ = some (.int .u64 0) := (blk_cell BK185.out 3).trans rfl; have hcz19_4 : w18.cell? ⟨gb185, 4, none⟩ = some (.int .i64 0) := (blk_cell BK185.out 4).trans rfl; have hcz19_5 : w18.cell? ⟨gb185, 5, none⟩ = some (.int .u64 0) := (blk_cell BK185.out 5).trans rfl; have hcz19_6 : w18.cell? ⟨gb185, 6, none⟩ = some (.int .i64 0) := (blk_cell BK185.out 6).trans rfl; have hcz19_7 : w18.cell? ⟨gb185, 7, none⟩ = some (.int .i64 0) := (blk_cell BK185.out 7).trans rfl; have hcz19_8 : w18.cell? ⟨gb185, 8, none⟩ = some (.string (⟨#[]⟩ : ByteArray)) := (blk_cell BK185.out 8).trans rfl; have hcz19_9 : w18.cell? ⟨gb185, 9, none⟩ = some (.string (⟨#[]⟩ : ByteArray)) := (blk_cell BK185.out 9).trans rfl; have hcz19_10 : w18.cell? ⟨gb185, 10, none⟩ = some (.bool false) := (blk_cell BK185.out 10).trans rfl; have hcz19_11 : w18.cell? ⟨gb185, 11, none⟩ = some (.int .i64 0) := (blk_cell BK185.out 11).trans rfl; have hfz19_0 := blk_frozen BK185.out 0; have hfz19_1 := blk_frozen BK185.out 1; have hfz19_2 := blk_frozen BK185.out 2; have hfz19_3 := blk_frozen BK185.out 3; have hfz19_4 := blk_frozen BK185.out 4; have hfz19_5 := blk_frozen BK185.out 5; have hfz19_6 := blk_frozen BK185.out 6; have hfz19_7 := blk_frozen BK185.out 7; have hfz19_8 := blk_frozen BK185.out 8; have hfz19_9 := blk_frozen BK185.out 9; have hfz19_10 := blk_frozen BK185.out 10; have hfz19_11 := blk_frozen BK185.out 11) | ((with_reducible refine gate_callee (f := 36) rfl ?_); refine goesL_ (some 28) rfl rfl Try.func36 (by kernel_rfl) rfl #[.int .i64 (wrap64 (t179))] rfl (by (try simp only [List.map_toArray, List.map_cons, List.map_nil]); first | done | rfl | (simp only [List.length_drop, List.length_take]; rfl)) ?_; (with_reducible refine (msg_has.calls (wrap64 (t179)) t189 t190 t191 t192 _ A7.out).mono ?_); rintro e w' ⟨rfl, ⟨nd, rfl⟩⟩; refine ⟨_, rfl, ?_⟩))
  (try simp only [Act.put, List.setIfInBounds_toArray, List.set_cons_zero, List.set_cons_succ])
  go_cut [] (fun wc => ∃ (kq : Nat) (x179000_7 : RdS) (x186005_7 : Int), Aside0 (msg_Decode.j0 kq t190 t191 t192 x179000_7 (wrap64 (t179)) (wrap64 (t181)) (wrap64 (t183)) t186 t187 x186005_7 0 0 (⟨#[]⟩ : ByteArray) (⟨#[]⟩ : ByteArray) false 0 = some (r1, r2, r3, r4, r5, r6, r7, r8, r9, r10, r11, r12, r13)) ∧ Aside0 (kq ≤ k) ∧ Aside0 (wc.heap[gb176]? = some (.cells #[.int .i64 0, .int .i64 0, .int .i64 0, .int .u64 0, .int .i64 0, .int .u64 0, .int .i64 0, .int .i64 0, .string (⟨#[]⟩ : ByteArray), .string (⟨#[]⟩ : ByteArray), .bool false, .int .i64 0] 47 (0, 0))) ∧ Aside0 (wc.heap[gb185]? = some (.cells #[.int .i64 (wrap64 (t179)), .int .i64 (wrap64 (t181)), .int .i64 (wrap64 (t183)), .int .u64 t186, .int .i64 t187, .int .u64 x186005_7, .int .i64 0, .int .i64 0, .string (⟨#[]⟩ : ByteArray), .string (⟨#[]⟩ : ByteArray), .bool false, .int .i64 0] 47 (0, 0))) ∧ Aside0 (IsS64 w wc g178 x179000_7) ∧ Aside0 (Below w.heap.size w wc))
  case first =>
    have H := HC8.out
    clear HC8
    by_cases c20 : t189 = true
    · subst c20
      have H1 : ((num_Reader_Num.f t188 1099511627776).bind fun bt193 => (msg_Decode.j0 k t190 t191 t192 bt193.2 (wrap64 (t179)) (wrap64 (t181)) (wrap64 (t183)) t186 t187 bt193.1 0 0 (⟨#[]⟩ : ByteArray) (⟨#[]⟩ : ByteArray) false 0)) = some (r1, r2, r3, r4, r5, r6, r7, r8, r9, r10, r11, r12, r13) := by rw [if_pos rfl] at H; exact H
      clear H
      have H := H1
      clear H1
      replace H := Option.bind_eq_some_iff.mp H
      obtain ⟨⟨t193, t194⟩, A210, H⟩ := H
      replace H : (msg_Decode.j0 k t190 t191 t192 t194 (wrap64 (t179)) (wrap64 (t181)) (wrap64 (t183)) t186 t187 t193 0 0 (⟨#[]⟩ : ByteArray) (⟨#[]⟩ : ByteArray) false 0) = some (r1, r2, r3, r4, r5, r6, r7, r8, r9, r10, r11, r12, r13) := H
      have A21 := Aside0.mk A210
      clear A210
      have H' := Aside0.mk H
      clear H
      go_wp2_with (first | ((with_reducible refine gate_callee (f := 23) rfl ?_); refine goesL_ (some 35) rfl rfl Try.func23 (by kernel_rfl) rfl #[.pointer (some ⟨g178, 0, none⟩), .int .u64 1099511627776] rfl (by (try simp only [List.map_toArray, List.map_cons, List.map_nil]); first | done | rfl | (simp only [List.length_drop, List.length_take]; rfl)) ?_; (with_reducible refine (num_Reader_Num.calls g178 t188 1099511627776 t193 t194 w _ ?side1 ?side2 A21.out).mono ?_); (case side1 => repeat (first | (with_reducible first | exact HI178.out | apply IsS64.alloc | apply IsS64.drewN | apply IsS64.drew | apply IsS64.set_0 | refine IsS64.far ?_ NB178_176.out _ | refine IsS64.far ?_ NB178_185.out _) | exact HI178.out)); (case side2 => repeat (first | (with_reducible first | exact HB.out | apply below_alloc | apply pw_below_drewN | apply below_drew1 | refine below_set ?_ (IsS64.ge HI178.out) | refine below_set ?_ GE176.out | refine below_set ?_ GE185.out) | exact HB.out)); rintro e w22 ⟨rfl, hi, hb, hk⟩; refine ⟨_, rfl, ?_⟩; have n0_ := Aside0.mk (KeepBut.blk hk (g' := gb176) (o := .cells #[.int .i64 0, .int .i64 0, .int .i64 0, .int .u64 0, .int .i64 0, .int .u64 0, .int .i64 0, .int .i64 0, .string (⟨#[]⟩ : ByteArray), .string (⟨#[]⟩ : ByteArray), .bool false, .int .i64 0] 47 (0, 0)) (by (with_reducible repeat (first | refine blk_drewN ?_ _ | refine blk_drew ?_ | refine blk_alloc ?_ _)); refine blk_far ?_ NB176_185.out _; (with_reducible repeat (first | refine blk_drewN ?_ _ | refine blk_drew ?_ | refine blk_alloc ?_ _)); refine blk_far ?_ NB176_185.out _; (with_reducible repeat (first | refine blk_drewN ?_ _ | refine blk_drew ?_ | refine blk_alloc ?_ _)); exact BK176.out) NB176_178.out (by simp)); have n1_ := Aside0.mk (KeepBut.blk hk (g' := gb185) (o := .cells #[.int .i64 (wrap64 (t179)), .int .i64 (wrap64 (t181)), .int .i64 (wrap64 (t183)), .int .u64 t186, .int .i64 t187, .int .u64 0, .int .i64 0, .int .i64 0, .string (⟨#[]⟩ : ByteArray), .string (⟨#[]⟩ : ByteArray), .bool false, .int .i64 0] 47 (0, 0)) (by (with_reducible repeat (first | refine blk_drewN ?_ _ | refine blk_drew ?_ | refine blk_alloc ?_ _)); refine blk_put (cs := #[.int .i64 (wrap64 (t179)), .int .i64 (wrap64 (t181)), .int .i64 (wrap64 (t183)), .int .u64 t186, .int .i64 0, .int .u64 0, .int .i64 0, .int .i64 0, .string (⟨#[]⟩ : ByteArray), .string (⟨#[]⟩ : ByteArray), .bool false, .int .i64 0]) ?_ 4 _ rfl; (with_reducible repeat (first | refine blk_drewN ?_ _ | refine blk_drew ?_ | refine blk_alloc ?_ _)); refine blk_put (cs := #[.int .i64 (wrap64 (t179)), .int .i64 (wrap64 (t181)), .int .i64 (wrap64 (t183)), .int .u64 0, .int .i64 0, .int .u64 0, .int .i64 0, .int .i64 0, .string (⟨#[]⟩ : ByteArray), .string (⟨#[]⟩ : ByteArray), .bool false, .int .i64 0]) ?_ 3 _ rfl; (with_reducible repeat (first | refine blk_drewN ?_ _ | refine blk_drew ?_ | refine blk_alloc ?_ _)); exact BK185.out) NB185_178.out (by simp)); have n2_ := Aside0.mk (hb); have n3_ := Aside0.mk (hi); clear BK176; clear BK185; clear HB; clear HI178; have BK176 := n0_; have BK185 := n1_; have HB := n2_; have HI178 := n3_; clear n0_ n1_ n2_ n3_; (try clear hb); (try clear hb2); (try clear hk); (try clear hi); have hnb23 := NB185_176.out; have hnc23 := NB176_185.out; have hnb24 := NB185_178.out; have hnc24 := NB178_185.out; have hcz25_0 : w22.cell? ⟨gb185, 0, none⟩ = some (.int .i64 (wrap64 (t179))) := (blk_cell BK185.out 0).trans rfl; have hcz25_1 : w22.cell? ⟨gb185, 1, none⟩ = some (.int .i64 (wrap64 (t181))) := (blk_cell BK185.out 1).trans rfl; have hcz25_2 : w22.cell? ⟨gb185, 2, none⟩ = some (.int .i64 (wrap64 (t183))) := (blk_cell BK185.out 2).trans rfl; have hcz25_3 : w22.cell? ⟨gb185, 3, none⟩ = some (.int .u64 t186) := (blk_cell BK185.out 3).trans rfl; have hcz25_4 : w22.cell? ⟨gb185, 4, none⟩ = some (.int .i64 t187) := (blk_cell BK185.out 4).trans rfl; have hcz25_5 : w22.cell? ⟨gb185, 5, none⟩ = some (.int .u64 0) := (blk_cell BK185.out 5).trans rfl; have hcz25_6 : w22.cell? ⟨gb185, 6, none⟩ = some (.int .i64 0) := (blk_cell BK185.out 6).trans rfl; have hcz25_7 : w22.cell? ⟨gb185, 7, none⟩ = some (.int .i64 0) := (blk_cell BK185.out 7).trans rfl; have hcz25_8 : w22.cell? ⟨gb185, 8, none⟩ = some (.string (⟨#[]⟩ : ByteArray)) := (blk_cell BK185.out 8).trans rfl; have hcz25_9 : w22.cell? ⟨gb185, 9, none⟩ = some (.string (⟨#[]⟩ : ByteArray)) := (blk_cell BK185.out 9).trans rfl; have hcz25_10 : w22.cell? ⟨gb185, 10, none⟩ = some (.bool false) := (blk_cell BK185.out 10).trans rfl; have hcz25_11 : w22.cell? ⟨gb185, 11, none⟩ = some (.int .i64 0) := (blk_cell BK185.out 11).trans rfl; have hfz25_0 := blk_frozen BK185.out 0; have hfz25_1 := blk_frozen BK185.out 1; have hfz25_2 := blk_frozen BK185.out 2; have hfz25_3 := blk_frozen BK185.out 3; have hfz25_4 := blk_frozen BK185.out 4; have hfz25_5 := blk_frozen BK185.out 5; have hfz25_6 := blk_frozen BK185.out 6; have hfz25_7 := blk_frozen BK185.out 7; have hfz25_8 := blk_frozen BK185.out 8; have hfz25_9 := blk_frozen BK185.out 9; have hfz25_10 := blk_frozen BK185.out 10; have hfz25_11 := blk_frozen BK185.out 11))
      go_meet
      case rel => exact ⟨_, (t194), (t193), H', ⟨by first | omega | exact Nat.le_refl _⟩, ⟨by (with_reducible repeat (first | refine blk_drewN ?_ _ | refine blk_drew ?_ | refine blk_alloc ?_ _)); refine blk_far ?_ NB176_185.out _; (with_reducible repeat (first | refine blk_drewN ?_ _ | refine blk_drew ?_ | refine blk_alloc ?_ _)); exact BK176.out⟩, ⟨by (with_reducible repeat (first | refine blk_drewN ?_ _ | refine blk_drew ?_ | refine blk_alloc ?_ _)); refine blk_put (cs := #[.int .i64 (wrap64 (t179)), .int .i64 (wrap64 (t181)), .int .i64 (wrap64 (t183)), .int .u64 t186, .int .i64 t187, .int .u64 0, .int .i64 0, .int .i64 0, .string (⟨#[]⟩ : ByteArray), .string (⟨#[]⟩ : ByteArray), .bool false, .int .i64 0]) ?_ 5 _ rfl; (with_reducible repeat (first | refine blk_drewN ?_ _ | refine blk_drew ?_ | refine blk_alloc ?_ _)); exact BK185.out⟩, ⟨by repeat (first | (with_reducible first | exact HI178.out | apply IsS64.alloc | apply IsS64.drewN | apply IsS64.drew | apply IsS64.set_0 | refine IsS64.far ?_ NB178_176.out _ | refine IsS64.far ?_ NB178_185.out _) | exact HI178.out)⟩, ⟨by repeat (first | (with_reducible first | exact HB.out | apply below_alloc | apply pw_below_drewN | apply below_drew1 | refine below_set ?_ (IsS64.ge HI178.out) | refine below_set ?_ GE176.out | refine below_set ?_ GE185.out) | exact HB.out)⟩⟩
    · replace c20 := Bool.eq_false_iff.mpr c20
      subst c20
      have H1 : (msg_Decode.j0 k t190 t191 t192 t188 (wrap64 (t179)) (wrap64 (t181)) (wrap64 (t183)) t186 t187 0 0 0 (⟨#[]⟩ : ByteArray) (⟨#[]⟩ : ByteArray) false 0) = some (r1, r2, r3, r4, r5, r6, r7, r8, r9, r10, r11, r12, r13) := by rw [if_neg (show ¬ (false = true) by decide)] at H; exact H
      clear H
      have H := H1
      clear H1
      have H' := Aside0.mk H
      clear H
      go_wp2
      go_meet
      case rel => exact ⟨_, (t188), (0), H', ⟨by first | omega | exact Nat.le_refl _⟩, ⟨by (with_reducible repeat (first | refine blk_drewN ?_ _ | refine blk_drew ?_ | refine blk_alloc ?_ _)); refine blk_far ?_ NB176_185.out _; (with_reducible repeat (first | refine blk_drewN ?_ _ | refine blk_drew ?_ | refine blk_alloc ?_ _)); refine blk_far ?_ NB176_185.out _; (with_reducible repeat (first | refine blk_drewN ?_ _ | refine blk_drew ?_ | refine blk_alloc ?_ _)); exact BK176.out⟩, ⟨by (with_reducible repeat (first | refine blk_drewN ?_ _ | refine blk_drew ?_ | refine blk_alloc ?_ _)); refine blk_put (cs := #[.int .i64 (wrap64 (t179)), .int .i64 (wrap64 (t181)), .int .i64 (wrap64 (t183)), .int .u64 t186, .int .i64 0, .int .u64 0, .int .i64 0, .int .i64 0, .string (⟨#[]⟩ : ByteArray), .string (⟨#[]⟩ : ByteArray), .bool false, .int .i64 0]) ?_ 4 _ rfl; (with_reducible repeat (first | refine blk_drewN ?_ _ | refine blk_drew ?_ | refine blk_alloc ?_ _)); refine blk_put (cs := #[.int .i64 (wrap64 (t179)), .int .i64 (wrap64 (t181)), .int .i64 (wrap64 (t183)), .int .u64 0, .int .i64 0, .int .u64 0, .int .i64 0, .int .i64 0, .string (⟨#[]⟩ : ByteArray), .string (⟨#[]⟩ : ByteArray), .bool false, .int .i64 0]) ?_ 3 _ rfl; (with_reducible repeat (first | refine blk_drewN ?_ _ | refine blk_drew ?_ | refine blk_alloc ?_ _)); exact BK185.out⟩, ⟨by repeat (first | (with_reducible first | exact HI178.out | apply IsS64.alloc | apply IsS64.drewN | apply IsS64.drew | apply IsS64.set_0 | refine IsS64.far ?_ NB178_176.out _ | refine IsS64.far ?_ NB178_185.out _) | exact HI178.out)⟩, ⟨by repeat (first | (with_reducible first | exact HB.out | apply below_alloc | apply pw_below_drewN | apply below_drew1 | refine below_set ?_ (IsS64.ge HI178.out) | refine below_set ?_ GE176.out | refine below_set ?_ GE185.out) | exact HB.out)⟩⟩
  case rest =>
    clear HC8
    try clear c1
    try clear c2
    try clear p2
    try clear c3
    try clear p6
    try clear c15
    try clear c16
    try clear c20
    try clear c21
    try clear c22
    try clear c23
    try clear c24
    try clear hcz17_0
    try clear hcz17_1
    try clear hcz17_10
    try clear hcz17_11
    try clear hcz17_2
    try clear hcz17_3
    try clear hcz17_4
    try clear hcz17_5
    try clear hcz17_6
    try clear hcz17_7
    try clear hcz17_8
    try clear hcz17_9
    try clear hcz19_0
    try clear hcz19_1
    try clear hcz19_10
    try clear hcz19_11
    try clear hcz19_2
    try clear hcz19_3
    try clear hcz19_4
    try clear hcz19_5
    try clear hcz19_6
    try clear hcz19_7
    try clear hcz19_8
    try clear hcz19_9
    try clear hcz25_0
    try clear hcz25_1
    try clear hcz25_10
    try clear hcz25_11
    try clear hcz25_2
    try clear hcz25_3
    try clear hcz25_4
    try clear hcz25_5
    try clear hcz25_6
    try clear hcz25_7
    try clear hcz25_8
    try clear hcz25_9
    try clear hfz17_0
    try clear hfz17_1
    try clear hfz17_10
    try clear hfz17_11
    try clear hfz17_2
    try clear hfz17_3
    try clear hfz17_4
    try clear hfz17_5
    try clear hfz17_6
    try clear hfz17_7
    try clear hfz17_8
    try clear hfz17_9
    try clear hfz19_0
    try clear hfz19_1
    try clear hfz19_10
    try clear hfz19_11
    try clear hfz19_2
    try clear hfz19_3
    try clear hfz19_4
    try clear hfz19_5
    try clear hfz19_6
    try clear hfz19_7
    try clear hfz19_8
    try clear hfz19_9
    try clear hfz25_0
    try clear hfz25_1
    try clear hfz25_10
    try clear hfz25_11
    try clear hfz25_2
    try clear hfz25_3
    try clear hfz25_4
    try clear hfz25_5
    try clear hfz25_6
    try clear hfz25_7
    try clear hfz25_8
    try clear hfz25_9
    obtain ⟨kq, x179000_7, x186005_7, HA, HJ7, BK176, BK185, HI178, HB⟩ := hcut
    cases kq with
    | zero => exact absurd HA.out (by simp [msg_Decode.j0])
    | succ kj7 =>
      have H := HA.out
      clear HA
      simp only [msg_Decode.j0] at H
      have HC26 := Aside0.mk H
      clear H
      go_upto_if 37 with (fail)
      go_cut [] (fun wc => ∃ (kq : Nat) (x179000_25 : RdS) (x186006_25 : Int), Aside0 (msg_Decode.j1 kq t191 t192 x179000_25 (wrap64 (t179)) (wrap64 (t181)) (wrap64 (t183)) t186 t187 x186005_7 x186006_25 0 (⟨#[]⟩ : ByteArray) (⟨#[]⟩ : ByteArray) false 0 = some (r1, r2, r3, r4, r5, r6, r7, r8, r9, r10, r11, r12, r13)) ∧ Aside0 (kq ≤ kj7) ∧ Aside0 (wc.heap[gb176]? = some (.cells #[.int .i64 0, .int .i64 0, .int .i64 0, .int .u64 0, .int .i64 0, .int .u64 0, .int .i64 0, .int .i64 0, .string (⟨#[]⟩ : ByteArray), .string (⟨#[]⟩ : ByteArray), .bool false, .int .i64 0] 47 (0, 0))) ∧ Aside0 (wc.heap[gb185]? = some (.cells #[.int .i64 (wrap64 (t179)), .int .i64 (wrap64 (t181)), .int .i64 (wrap64 (t183)), .int .u64 t186, .int .i64 t187, .int .u64 x186005_7, .int .i64 x186006_25, .int .i64 0, .string (⟨#[]⟩ : ByteArray), .string (⟨#[]⟩ : ByteArray), .bool false, .int .i64 0] 47 (0, 0))) ∧ Aside0 (IsS64 w wc g178 x179000_25) ∧ Aside0 (Below w.heap.size w wc))
      case first =>
        have H := HC26.out
        clear HC26
        by_cases c27 : t190 = true
        · subst c27
          have H1 : ((num_Reader_Num.f x179000_7 1048576).bind fun bt195 => (msg_Decode.j1 kj7 t191 t192 bt195.2 (wrap64 (t179)) (wrap64 (t181)) (wrap64 (t183)) t186 t187 x186005_7 (wrap64 (bt195.1)) 0 (⟨#[]⟩ : ByteArray) (⟨#[]⟩ : ByteArray) false 0)) = some (r1, r2, r3, r4, r5, r6, r7, r8, r9, r10, r11, r12, r13) := by rw [if_pos rfl] at H; exact H
          clear H
          have H := H1
          clear H1
          replace H := Option.bind_eq_some_iff.mp H
          obtain ⟨⟨t195, t196⟩, A280, H⟩ := H
          replace H : (msg_Decode.j1 kj7 t191 t192 t196 (wrap64 (t179)) (wrap64 (t181)) (wrap64 (t183)) t186 t187 x186005_7 (wrap64 (t195)) 0 (⟨#[]⟩ : ByteArray) (⟨#[]⟩ : ByteArray) false 0) = some (r1, r2, r3, r4, r5, r6, r7, r8, r9, r10, r11, r12, r13) := H
          have A28 := Aside0.mk A280
          clear A280
          have H' := Aside0.mk H
          clear H
          go_wp2_with (first | ((with_reducible refine gate_callee (f := 23) rfl ?_); refine goesL_ (some 39) rfl rfl Try.func23 (by kernel_rfl) rfl #[.pointer (some ⟨g178, 0, none⟩), .int .u64 1048576] rfl (by (try simp only [List.map_toArray, List.map_cons, List.map_nil]); first | done | rfl | (simp only [List.length_drop, List.length_take]; rfl)) ?_; (with_reducible refine (num_Reader_Num.calls g178 x179000_7 1048576 t195 t196 w _ ?side1 ?side2 A28.out).mono ?_); (case side1 => repeat (first | (with_reducible first | exact HI178.out | apply IsS64.alloc | apply IsS64.drewN | apply IsS64.drew | apply IsS64.set_0 | refine IsS64.far ?_ NB178_176.out _ | refine IsS64.far ?_ NB178_185.out _) | exact HI178.out)); (case side2 => repeat (first | (with_reducible first | exact HB.out | apply below_alloc | apply pw_below_drewN | apply below_drew1 | refine below_set ?_ (IsS64.ge HI178.out) | refine below_set ?_ GE176.out | refine below_set ?_ GE185.out) | exact HB.out)); rintro e w29 ⟨rfl, hi, hb, hk⟩; refine ⟨_, rfl, ?_⟩; have n0_ := Aside0.mk (KeepBut.blk hk (g' := gb176) (o := .cells #[.int .i64 0, .int .i64 0, .int .i64 0, .int .u64 0, .int .i64 0, .int .u64 0, .int .i64 0, .int .i64 0, .string (⟨#[]⟩ : ByteArray), .string (⟨#[]⟩ : ByteArray), .bool false, .int .i64 0] 47 (0, 0)) (by (with_reducible repeat (first | refine blk_drewN ?_ _ | refine blk_drew ?_ | refine blk_alloc ?_ _)); exact BK176.out) NB176_178.out (by simp)); have n1_ := Aside0.mk (KeepBut.blk hk (g' := gb185) (o := .cells #[.int .i64 (wrap64 (t179)), .int .i64 (wrap64 (t181)), .int .i64 (wrap64 (t183)), .int .u64 t186, .int .i64 t187, .int .u64 x186005_7, .int .i64 0, .int .i64 0, .string (⟨#[]⟩ : ByteArray), .string (⟨#[]⟩ : ByteArray), .bool false, .int .i64 0] 47 (0, 0)) (by (with_reducible repeat (first | refine blk_drewN ?_ _ | refine blk_drew ?_ | refine blk_alloc ?_ _)); exact BK185.out) NB185_178.out (by simp)); have n2_ := Aside0.mk (hb); have n3_ := Aside0.mk (hi); clear BK176; clear BK185; clear HB; clear HI178; have BK176 := n0_; have BK185 := n1_; have HB := n2_; have HI178 := n3_; clear n0_ n1_ n2_ n3_; (try clear hb); (try clear hb2); (try clear hk); (try clear hi); have hnb30 := NB185_176.out; have hnc30 := NB176_185.out; have hnb31 := NB185_178.out; have hnc31 := NB178_185.out; have hcz32_0 : w29.cell? ⟨gb185, 0, none⟩ = some (.int .i64 (wrap64 (t179))) := (blk_cell BK185.out 0).trans rfl; have hcz32_1 : w29.cell? ⟨gb185, 1, none⟩ = some (.int .i64 (wrap64 (t181))) := (blk_cell BK185.out 1).trans rfl; have hcz32_2 : w29.cell? ⟨gb185, 2, none⟩ = some (.int .i64 (wrap64 (t183))) := (blk_cell BK185.out 2).trans rfl; have hcz32_3 : w29.cell? ⟨gb185, 3, none⟩ = some (.int .u64 t186) := (blk_cell BK185.out 3).trans rfl; have hcz32_4 : w29.cell? ⟨gb185, 4, none⟩ = some (.int .i64 t187) := (blk_cell BK185.out 4).trans rfl; have hcz32_5 : w29.cell? ⟨gb185, 5, none⟩ = some (.int .u64 x186005_7) := (blk_cell BK185.out 5).trans rfl; have hcz32_6 : w29.cell? ⟨gb185, 6, none⟩ = some (.int .i64 0) := (blk_cell BK185.out 6).trans rfl; have hcz32_7 : w29.cell? ⟨gb185, 7, none⟩ = some (.int .i64 0) := (blk_cell BK185.out 7).trans rfl; have hcz32_8 : w29.cell? ⟨gb185, 8, none⟩ = some (.string (⟨#[]⟩ : ByteArray)) := (blk_cell BK185.out 8).trans rfl; have hcz32_9 : w29.cell? ⟨gb185, 9, none⟩ = some (.string (⟨#[]⟩ : ByteArray)) := (blk_cell BK185.out 9).trans rfl; have hcz32_10 : w29.cell? ⟨gb185, 10, none⟩ = some (.bool false) := (blk_cell BK185.out 10).trans rfl; have hcz32_11 : w29.cell? ⟨gb185, 11, none⟩ = some (.int .i64 0) := (blk_cell BK185.out 11).trans rfl; have hfz32_0 := blk_frozen BK185.out 0; have hfz32_1 := blk_frozen BK185.out 1; have hfz32_2 := blk_frozen BK185.out 2; have hfz32_3 := blk_frozen BK185.out 3; have hfz32_4 := blk_frozen BK185.out 4; have hfz32_5 := blk_frozen BK185.out 5; have hfz32_6 := blk_frozen BK185.out 6; have hfz32_7 := blk_frozen BK185.out 7; have hfz32_8 := blk_frozen BK185.out 8; have hfz32_9 := blk_frozen BK185.out 9; have hfz32_10 := blk_frozen BK185.out 10; have hfz32_11 := blk_frozen BK185.out 11))
          go_meet
          case rel => exact ⟨_, (t196), (wrap64 (t195)), H', ⟨by have := HJ7.out; first | omega | exact Nat.le_refl _⟩, ⟨by (with_reducible repeat (first | refine blk_drewN ?_ _ | refine blk_drew ?_ | refine blk_alloc ?_ _)); refine blk_far ?_ NB176_185.out _; (with_reducible repeat (first | refine blk_drewN ?_ _ | refine blk_drew ?_ | refine blk_alloc ?_ _)); exact BK176.out⟩, ⟨by (with_reducible repeat (first | refine blk_drewN ?_ _ | refine blk_drew ?_ | refine blk_alloc ?_ _)); refine blk_put (cs := #[.int .i64 (wrap64 (t179)), .int .i64 (wrap64 (t181)), .int .i64 (wrap64 (t183)), .int .u64 t186, .int .i64 t187, .int .u64 x186005_7, .int .i64 0, .int .i64 0, .string (⟨#[]⟩ : ByteArray), .string (⟨#[]⟩ : ByteArray), .bool false, .int .i64 0]) ?_ 6 _ rfl; (with_reducible repeat (first | refine blk_drewN ?_ _ | refine blk_drew ?_ | refine blk_alloc ?_ _)); exact BK185.out⟩, ⟨by repeat (first | (with_reducible first | exact HI178.out | apply IsS64.alloc | apply IsS64.drewN | apply IsS64.drew | apply IsS64.set_0 | refine IsS64.far ?_ NB178_176.out _ | refine IsS64.far ?_ NB178_185.out _) | exact HI178.out)⟩, ⟨by repeat (first | (with_reducible first | exact HB.out | apply below_alloc | apply pw_below_drewN | apply below_drew1 | refine below_set ?_ (IsS64.ge HI178.out) | refine below_set ?_ GE176.out | refine below_set ?_ GE185.out) | exact HB.out)⟩⟩
        · replace c27 := Bool.eq_false_iff.mpr c27
          subst c27
          have H1 : (msg_Decode.j1 kj7 t191 t192 x179000_7 (wrap64 (t179)) (wrap64 (t181)) (wrap64 (t183)) t186 t187 x186005_7 0 0 (⟨#[]⟩ : ByteArray) (⟨#[]⟩ : ByteArray) false 0) = some (r1, r2, r3, r4, r5, r6, r7, r8, r9, r10, r11, r12, r13) := by rw [if_neg (show ¬ (false = true) by decide)] at H; exact H
          clear H
          have H := H1
          clear H1
          have H' := Aside0.mk H
          clear H
          go_wp2
          go_meet
          case rel => exact ⟨_, (x179000_7), (0), H', ⟨by have := HJ7.out; first | omega | exact Nat.le_refl _⟩, ⟨by (with_reducible repeat (first | refine blk_drewN ?_ _ | refine blk_drew ?_ | refine blk_alloc ?_ _)); exact BK176.out⟩, ⟨by (with_reducible repeat (first | refine blk_drewN ?_ _ | refine blk_drew ?_ | refine blk_alloc ?_ _)); exact BK185.out⟩, ⟨by repeat (first | (with_reducible first | exact HI178.out | apply IsS64.alloc | apply IsS64.drewN | apply IsS64.drew | apply IsS64.set_0 | refine IsS64.far ?_ NB178_176.out _ | refine IsS64.far ?_ NB178_185.out _) | exact HI178.out)⟩, ⟨by repeat (first | (with_reducible first | exact HB.out | apply below_alloc | apply pw_below_drewN | apply below_drew1 | refine below_set ?_ (IsS64.ge HI178.out) | refine below_set ?_ GE176.out | refine below_set ?_ GE185.out) | exact HB.out)⟩⟩
      case rest =>
        clear HC26
        try clear c1
        try clear c2
        try clear p2
        try clear c3
        try clear p6
        try clear c15
        try clear c16
        try clear c20
        try clear c21
        try clear c22
        try clear c23
        try clear c24
        try clear c27
        try clear c30
        try clear c31
        try clear hcz17_0
        try clear hcz17_1
        try clear hcz17_10
        try clear hcz17_11
        try clear hcz17_2
        try clear hcz17_3
        try clear hcz17_4
        try clear hcz17_5
        try clear hcz17_6
        try clear hcz17_7
        try clear hcz17_8
        try clear hcz17_9
        try clear hcz19_0
        try clear hcz19_1
        try clear hcz19_10
        try clear hcz19_11
        try clear hcz19_2
        try clear hcz19_3
        try clear hcz19_4
        try clear hcz19_5
        try clear hcz19_6
        try clear hcz19_7
        try clear hcz19_8
        try clear hcz19_9
        try clear hcz25_0
        try clear hcz25_1
        try clear hcz25_10
        try clear hcz25_11
        try clear hcz25_2
        try clear hcz25_3
        try clear hcz25_4
        try clear hcz25_5
        try clear hcz25_6
        try clear hcz25_7
        try clear hcz25_8
        try clear hcz25_9
        try clear hcz32_0
        try clear hcz32_1
        try clear hcz32_10
        try clear hcz32_11
        try clear hcz32_2
        try clear hcz32_3
        try clear hcz32_4
        try clear hcz32_5
        try clear hcz32_6
        try clear hcz32_7
        try clear hcz32_8
        try clear hcz32_9
        try clear hfz17_0
        try clear hfz17_1
        try clear hfz17_10
        try clear hfz17_11
        try clear hfz17_2
        try clear hfz17_3
        try clear hfz17_4
        try clear hfz17_5
        try clear hfz17_6
        try clear hfz17_7
        try clear hfz17_8
        try clear hfz17_9
        try clear hfz19_0
        try clear hfz19_1
        try clear hfz19_10
        try clear hfz19_11
        try clear hfz19_2
        try clear hfz19_3
        try clear hfz19_4
        try clear hfz19_5
        try clear hfz19_6
        try clear hfz19_7
        try clear hfz19_8
        try clear hfz19_9
        try clear hfz25_0
        try clear hfz25_1
        try clear hfz25_10
        try clear hfz25_11
        try clear hfz25_2
        try clear hfz25_3
        try clear hfz25_4
        try clear hfz25_5
        try clear hfz25_6
        try clear hfz25_7
        try clear hfz25_8
        try clear hfz25_9
        try clear hfz32_0
        try clear hfz32_1
        try clear hfz32_10
        try clear hfz32_11
        try clear hfz32_2
        try clear hfz32_3
        try clear hfz32_4
        try clear hfz32_5
        try clear hfz32_6
        try clear hfz32_7
        try clear hfz32_8
        try clear hfz32_9
        try clear p2
        try clear p6
        obtain ⟨kq, x179000_25, x186006_25, HA, HJ25, BK176, BK185, HI178, HB⟩ := hcut
        cases kq with
        | zero => exact absurd HA.out (by simp [msg_Decode.j1])
        | succ kj25 =>
          have H := HA.out
          clear HA
          simp only [msg_Decode.j1] at H
          have HC33 := Aside0.mk H
          clear H
          go_upto_if 42 with (fail)
          go_cut [] (fun wc => ∃ (kq : Nat) (x179000_32 : RdS) (x186007_32 : Int) (x186008_32 : ByteArray) (x186009_32 : ByteArray), Aside0 (msg_Decode.j2 kq t192 x179000_32 (wrap64 (t179)) (wrap64 (t181)) (wrap64 (t183)) t186 t187 x186005_7 x186006_25 x186007_32 x186008_32 x186009_32 false 0 = some (r1, r2, r3, r4, r5, r6, r7, r8, r9, r10, r11, r12, r13)) ∧ Aside0 (kq ≤ kj25) ∧ Aside0 (wc.heap[gb176]? = some (.cells #[.int .i64 0, .int .i64 0, .int .i64 0, .int .u64 0, .int .i64 0, .int .u64 0, .int .i64 0, .int .i64 0, .string (⟨#[]⟩ : ByteArray), .string (⟨#[]⟩ : ByteArray), .bool false, .int .i64 0] 47 (0, 0))) ∧ Aside0 (wc.heap[gb185]? = some (.cells #[.int .i64 (wrap64 (t179)), .int .i64 (wrap64 (t181)), .int .i64 (wrap64 (t183)), .int .u64 t186, .int .i64 t187, .int .u64 x186005_7, .int .i64 x186006_25, .int .i64 x186007_32, .string x186008_32, .string x186009_32, .bool false, .int .i64 0] 47 (0, 0))) ∧ Aside0 (IsS64 w wc g178 x179000_32) ∧ Aside0 (Below w.heap.size w wc))
          case first =>
            have H := HC33.out
            clear HC33
            by_cases c34 : t191 = true
            · subst c34
              have H1 : ((num_Reader_Num.f x179000_25 3).bind fun bt197 => ((num_Reader_Text.f bt197.2 24).bind fun bt199 => ((num_Reader_Text.f bt199.2 48).bind fun bt201 => (msg_Decode.j2 kj25 t192 bt201.2 (wrap64 (t179)) (wrap64 (t181)) (wrap64 (t183)) t186 t187 x186005_7 x186006_25 (wrap64 (bt197.1)) bt199.1 bt201.1 false 0)))) = some (r1, r2, r3, r4, r5, r6, r7, r8, r9, r10, r11, r12, r13) := by rw [if_pos rfl] at H; exact H
              clear H
              have H := H1
              clear H1
              replace H := Option.bind_eq_some_iff.mp H
              obtain ⟨⟨t197, t198⟩, A350, H⟩ := H
              replace H : ((num_Reader_Text.f t198 24).bind fun bt199 => ((num_Reader_Text.f bt199.2 48).bind fun bt201 => (msg_Decode.j2 kj25 t192 bt201.2 (wrap64 (t179)) (wrap64 (t181)) (wrap64 (t183)) t186 t187 x186005_7 x186006_25 (wrap64 (t197)) bt199.1 bt201.1 false 0))) = some (r1, r2, r3, r4, r5, r6, r7, r8, r9, r10, r11, r12, r13) := H
              have A35 := Aside0.mk A350
              clear A350
              replace H := Option.bind_eq_some_iff.mp H
              obtain ⟨⟨t199, t200⟩, A360, H⟩ := H
              replace H : ((num_Reader_Text.f t200 48).bind fun bt201 => (msg_Decode.j2 kj25 t192 bt201.2 (wrap64 (t179)) (wrap64 (t181)) (wrap64 (t183)) t186 t187 x186005_7 x186006_25 (wrap64 (t197)) t199 bt201.1 false 0)) = some (r1, r2, r3, r4, r5, r6, r7, r8, r9, r10, r11, r12, r13) := H
              have A36 := Aside0.mk A360
              clear A360
              replace H := Option.bind_eq_some_iff.mp H
              obtain ⟨⟨t201, t202⟩, A370, H⟩ := H
              replace H : (msg_Decode.j2 kj25 t192 t202 (wrap64 (t179)) (wrap64 (t181)) (wrap64 (t183)) t186 t187 x186005_7 x186006_25 (wrap64 (t197)) t199 t201 false 0) = some (r1, r2, r3, r4, r5, r6, r7, r8, r9, r10, r11, r12, r13) := H
              have A37 := Aside0.mk A370
              clear A370
              have H' := Aside0.mk H
              clear H
              go_wp2_with (first | ((with_reducible refine gate_callee (f := 23) rfl ?_); refine goesL_ (some 44) rfl rfl Try.func23 (by kernel_rfl) rfl #[.pointer (some ⟨g178, 0, none⟩), .int .u64 3] rfl (by (try simp only [List.map_toArray, List.map_cons, List.map_nil]); first | done | rfl | (simp only [List.length_drop, List.length_take]; rfl)) ?_; (with_reducible refine (num_Reader_Num.calls g178 x179000_25 3 t197 t198 w _ ?side1 ?side2 A35.out).mono ?_); (case side1 => repeat (first | (with_reducible first | exact HI178.out | apply IsS64.alloc | apply IsS64.drewN | apply IsS64.drew | apply IsS64.set_0 | refine IsS64.far ?_ NB178_176.out _ | refine IsS64.far ?_ NB178_185.out _) | exact HI178.out)); (case side2 => repeat (first | (with_reducible first | exact HB.out | apply below_alloc | apply pw_below_drewN | apply below_drew1 | refine below_set ?_ (IsS64.ge HI178.out) | refine below_set ?_ GE176.out | refine below_set ?_ GE185.out) | exact HB.out)); rintro e w38 ⟨rfl, hi, hb, hk⟩; refine ⟨_, rfl, ?_⟩; have n0_ := Aside0.mk (KeepBut.blk hk (g' := gb176) (o := .cells #[.int .i64 0, .int .i64 0, .int .i64 0, .int .u64 0, .int .i64 0, .int .u64 0, .int .i64 0, .int .i64 0, .string (⟨#[]⟩ : ByteArray), .string (⟨#[]⟩ : ByteArray), .bool false, .int .i64 0] 47 (0, 0)) (by (with_reducible repeat (first | refine blk_drewN ?_ _ | refine blk_drew ?_ | refine blk_alloc ?_ _)); exact BK176.out) NB176_178.out (by simp)); have n1_ := Aside0.mk (KeepBut.blk hk (g' := gb185) (o := .cells #[.int .i64 (wrap64 (t179)), .int .i64 (wrap64 (t181)), .int .i64 (wrap64 (t183)), .int .u64 t186, .int .i64 t187, .int .u64 x186005_7, .int .i64 x186006_25, .int .i64 0, .string (⟨#[]⟩ : ByteArray), .string (⟨#[]⟩ : ByteArray), .bool false, .int .i64 0] 47 (0, 0)) (by (with_reducible repeat (first | refine blk_drewN ?_ _ | refine blk_drew ?_ | refine blk_alloc ?_ _)); exact BK185.out) NB185_178.out (by simp)); have n2_ := Aside0.mk (hb); have n3_ := Aside0.mk (hi); clear BK176; clear BK185; clear HB; clear HI178; have BK176 := n0_; have BK185 := n1_; have HB := n2_; have HI178 := n3_; clear n0_ n1_ n2_ n3_; (try clear hb); (try clear hb2); (try clear hk); (try clear hi); have hnb39 := NB185_176.out; have hnc39 := NB176_185.out; have hnb40 := NB185_178.out; have hnc40 := NB178_185.out; have hcz41_0 : w38.cell? ⟨gb185, 0, none⟩ = some (.int .i64 (wrap64 (t179))) := (blk_cell BK185.out 0).trans rfl; have hcz41_1 : w38.cell? ⟨gb185, 1, none⟩ = some (.int .i64 (wrap64 (t181))) := (blk_cell BK185.out 1).trans rfl; have hcz41_2 : w38.cell? ⟨gb185, 2, none⟩ = some (.int .i64 (wrap64 (t183))) := (blk_cell BK185.out 2).trans rfl; have hcz41_3 : w38.cell? ⟨gb185, 3, none⟩ = some (.int .u64 t186) := (blk_cell BK185.out 3).trans rfl; have hcz41_4 : w38.cell? ⟨gb185, 4, none⟩ = some (.int .i64 t187) := (blk_cell BK185.out 4).trans rfl; have hcz41_5 : w38.cell? ⟨gb185, 5, none⟩ = some (.int .u64 x186005_7) := (blk_cell BK185.out 5).trans rfl; have hcz41_6 : w38.cell? ⟨gb185, 6, none⟩ = some (.int .i64 x186006_25) := (blk_cell BK185.out 6).trans rfl; have hcz41_7 : w38.cell? ⟨gb185, 7, none⟩ = some (.int .i64 0) := (blk_cell BK185.out 7).trans rfl; have hcz41_8 : w38.cell? ⟨gb185, 8, none⟩ = some (.string (⟨#[]⟩ : ByteArray)) := (blk_cell BK185.out 8).trans rfl; have hcz41_9 : w38.cell? ⟨gb185, 9, none⟩ = some (.string (⟨#[]⟩ : ByteArray)) := (blk_cell BK185.out 9).trans rfl; have hcz41_10 : w38.cell? ⟨gb185, 10, none⟩ = some (.bool false) := (blk_cell BK185.out 10).trans rfl; have hcz41_11 : w38.cell? ⟨gb185, 11, none⟩ = some (.int .i64 0) := (blk_cell BK185.out 11).trans rfl; have hfz41_0 := blk_frozen BK185.out 0; have hfz41_1 := blk_frozen BK185.out 1; have hfz41_2 := blk_frozen BK185.out 2; have hfz41_3 := blk_frozen BK185.out 3; have hfz41_4 := blk_frozen BK185.out 4; have hfz41_5 := blk_frozen BK185.out 5; have hfz41_6 := blk_frozen BK185.out 6; have hfz41_7 := blk_frozen BK185.out 7; have hfz41_8 := blk_frozen BK185.out 8; have hfz41_9 := blk_frozen BK185.out 9; have hfz41_10 := blk_frozen BK185.out 10; have hfz41_11 := blk_frozen BK185.out 11) | ((with_reducible refine gate_callee (f := 26) rfl ?_); refine goesL_ (some 48) rfl rfl Try.func26 (by kernel_rfl) rfl #[.pointer (some ⟨g178, 0, none⟩), .int .i64 24] rfl (by (try simp only [List.map_toArray, List.map_cons, List.map_nil]); first | done | rfl | (simp only [List.length_drop, List.length_take]; rfl)) ?_; (with_reducible refine (num_Reader_Text.calls g178 t198 24 t199 t200 w _ ?side1 ?side2 A36.out).mono ?_); (case side1 => repeat (first | (with_reducible first | exact HI178.out | apply IsS64.alloc | apply IsS64.drewN | apply IsS64.drew | apply IsS64.set_0 | refine IsS64.far ?_ NB178_176.out _ | refine IsS64.far ?_ NB178_185.out _) | exact HI178.out)); (case side2 => repeat (first | (with_reducible first | exact HB.out | apply below_alloc | apply pw_below_drewN | apply below_drew1 | refine below_set ?_ (IsS64.ge HI178.out) | refine below_set ?_ GE176.out | refine below_set ?_ GE185.out) | exact HB.out)); rintro e w42 ⟨rfl, hi, hb, hk⟩; refine ⟨_, rfl, ?_⟩; have n0_ := Aside0.mk (KeepBut.blk hk (g' := gb176) (o := .cells #[.int .i64 0, .int .i64 0, .int .i64 0, .int .u64 0, .int .i64 0, .int .u64 0, .int .i64 0, .int .i64 0, .string (⟨#[]⟩ : ByteArray), .string (⟨#[]⟩ : ByteArray), .bool false, .int .i64 0] 47 (0, 0)) (by (with_reducible repeat (first | refine blk_drewN ?_ _ | refine blk_drew ?_ | refine blk_alloc ?_ _)); refine blk_far ?_ NB176_185.out _; (with_reducible repeat (first | refine blk_drewN ?_ _ | refine blk_drew ?_ | refine blk_alloc ?_ _)); exact BK176.out) NB176_178.out (by simp)); have n1_ := Aside0.mk (KeepBut.blk hk (g' := gb185) (o := .cells #[.int .i64 (wrap64 (t179)), .int .i64 (wrap64 (t181)), .int .i64 (wrap64 (t183)), .int .u64 t186, .int .i64 t187, .int .u64 x186005_7, .int .i64 x186006_25, .int .i64 (wrap64 (t197)), .string (⟨#[]⟩ : ByteArray), .string (⟨#[]⟩ : ByteArray), .bool false, .int .i64 0] 47 (0, 0)) (by (with_reducible repeat (first | refine blk_drewN ?_ _ | refine blk_drew ?_ | refine blk_alloc ?_ _)); refine blk_put (cs := #[.int .i64 (wrap64 (t179)), .int .i64 (wrap64 (t181)), .int .i64 (wrap64 (t183)), .int .u64 t186, .int .i64 t187, .int .u64 x186005_7, .int .i64 x186006_25, .int .i64 0, .string (⟨#[]⟩ : ByteArray), .string (⟨#[]⟩ : ByteArray), .bool false, .int .i64 0]) ?_ 7 _ rfl; (with_reducible repeat (first | refine blk_drewN ?_ _ | refine blk_drew ?_ | refine blk_alloc ?_ _)); exact BK185.out) NB185_178.out (by simp)); have n2_ := Aside0.mk (hb); have n3_ := Aside0.mk (hi); clear BK176; clear BK185; clear HB; clear HI178; have BK176 := n0_; have BK185 := n1_; have HB := n2_; have HI178 := n3_; clear n0_ n1_ n2_ n3_; (try clear hb); (try clear hb2); (try clear hk); (try clear hi); have hcz43_0 : w42.cell? ⟨gb185, 0, none⟩ = some (.int .i64 (wrap64 (t179))) := (blk_cell BK185.out 0).trans rfl; have hcz43_1 : w42.cell? ⟨gb185, 1, none⟩ = some (.int .i64 (wrap64 (t181))) := (blk_cell BK185.out 1).trans rfl; have hcz43_2 : w42.cell? ⟨gb185, 2, none⟩ = some (.int .i64 (wrap64 (t183))) := (blk_cell BK185.out 2).trans rfl; have hcz43_3 : w42.cell? ⟨gb185, 3, none⟩ = some (.int .u64 t186) := (blk_cell BK185.out 3).trans rfl; have hcz43_4 : w42.cell? ⟨gb185, 4, none⟩ = some (.int .i64 t187) := (blk_cell BK185.out 4).trans rfl; have hcz43_5 : w42.cell? ⟨gb185, 5, none⟩ = some (.int .u64 x186005_7) := (blk_cell BK185.out 5).trans rfl; have hcz43_6 : w42.cell? ⟨gb185, 6, none⟩ = some (.int .i64 x186006_25) := (blk_cell BK185.out 6).trans rfl; have hcz43_7 : w42.cell? ⟨gb185, 7, none⟩ = some (.int .i64 (wrap64 (t197))) := (blk_cell BK185.out 7).trans rfl; have hcz43_8 : w42.cell? ⟨gb185, 8, none⟩ = some (.string (⟨#[]⟩ : ByteArray)) := (blk_cell BK185.out 8).trans rfl; have hcz43_9 : w42.cell? ⟨gb185, 9, none⟩ = some (.string (⟨#[]⟩ : ByteArray)) := (blk_cell BK185.out 9).trans rfl; have hcz43_10 : w42.cell? ⟨gb185, 10, none⟩ = some (.bool false) := (blk_cell BK185.out 10).trans rfl; have hcz43_11 : w42.cell? ⟨gb185, 11, none⟩ = some (.int .i64 0) := (blk_cell BK185.out 11).trans rfl; have hfz43_0 := blk_frozen BK185.out 0; have hfz43_1 := blk_frozen BK185.out 1; have hfz43_2 := blk_frozen BK185.out 2; have hfz43_3 := blk_frozen BK185.out 3; have hfz43_4 := blk_frozen BK185.out 4; have hfz43_5 := blk_frozen BK185.out 5; have hfz43_6 := blk_frozen BK185.out 6; have hfz43_7 := blk_frozen BK185.out 7; have hfz43_8 := blk_frozen BK185.out 8; have hfz43_9 := blk_frozen BK185.out 9; have hfz43_10 := blk_frozen BK185.out 10; have hfz43_11 := blk_frozen BK185.out 11) | ((with_reducible refine gate_callee (f := 26) rfl ?_); refine goesL_ (some 51) rfl rfl Try.func26 (by kernel_rfl) rfl #[.pointer (some ⟨g178, 0, none⟩), .int .i64 48] rfl (by (try simp only [List.map_toArray, List.map_cons, List.map_nil]); first | done | rfl | (simp only [List.length_drop, List.length_take]; rfl)) ?_; (with_reducible refine (num_Reader_Text.calls g178 t200 48 t201 t202 w _ ?side1 ?side2 A37.out).mono ?_); (case side1 => repeat (first | (with_reducible first | exact HI178.out | apply IsS64.alloc | apply IsS64.drewN | apply IsS64.drew | apply IsS64.set_0 | refine IsS64.far ?_ NB178_176.out _ | refine IsS64.far ?_ NB178_185.out _) | exact HI178.out)); (case side2 => repeat (first | (with_reducible first | exact HB.out | apply below_alloc | apply pw_below_drewN | apply below_drew1 | refine below_set ?_ (IsS64.ge HI178.out) | refine below_set ?_ GE176.out | refine below_set ?_ GE185.out) | exact HB.out)); rintro e w44 ⟨rfl, hi, hb, hk⟩; refine ⟨_, rfl, ?_⟩; have n0_ := Aside0.mk (KeepBut.blk hk (g' := gb176) (o := .cells #[.int .i64 0, .int .i64 0, .int .i64 0, .int .u64 0, .int .i64 0, .int .u64 0, .int .i64 0, .int .i64 0, .string (⟨#[]⟩ : ByteArray), .string (⟨#[]⟩ : ByteArray), .bool false, .int .i64 0] 47 (0, 0)) (by (with_reducible repeat (first | refine blk_drewN ?_ _ | refine blk_drew ?_ | refine blk_alloc ?_ _)); refine blk_far ?_ NB176_185.out _; (with_reducible repeat (first | refine blk_drewN ?_ _ | refine blk_drew ?_ | refine blk_alloc ?_ _)); exact BK176.out) NB176_178.out (by simp)); have n1_ := Aside0.mk (KeepBut.blk hk (g' := gb185) (o := .cells #[.int .i64 (wrap64 (t179)), .int .i64 (wrap64 (t181)), .int .i64 (wrap64 (t183)), .int .u64 t186, .int .i64 t187, .int .u64 x186005_7, .int .i64 x186006_25, .int .i64 (wrap64 (t197)), .string t199, .string (⟨#[]⟩ : ByteArray), .bool false, .int .i64 0] 47 (0, 0)) (by (with_reducible repeat (first | refine blk_drewN ?_ _ | refine blk_drew ?_ | refine blk_alloc ?_ _)); refine blk_put (cs := #[.int .i64 (wrap64 (t179)), .int .i64 (wrap64 (t181)), .int .i64 (wrap64 (t183)), .int .u64 t186, .int .i64 t187, .int .u64 x186005_7, .int .i64 x186006_25, .int .i64 (wrap64 (t197)), .string (⟨#[]⟩ : ByteArray), .string (⟨#[]⟩ : ByteArray), .bool false, .int .i64 0]) ?_ 8 _ rfl; (with_reducible repeat (first | refine blk_drewN ?_ _ | refine blk_drew ?_ | refine blk_alloc ?_ _)); exact BK185.out) NB185_178.out (by simp)); have n2_ := Aside0.mk (hb); have n3_ := Aside0.mk (hi); clear BK176; clear BK185; clear HB; clear HI178; have BK176 := n0_; have BK185 := n1_; have HB := n2_; have HI178 := n3_; clear n0_ n1_ n2_ n3_; (try clear hb); (try clear hb2); (try clear hk); (try clear hi); have hcz45_0 : w44.cell? ⟨gb185, 0, none⟩ = some (.int .i64 (wrap64 (t179))) := (blk_cell BK185.out 0).trans rfl; have hcz45_1 : w44.cell? ⟨gb185, 1, none⟩ = some (.int .i64 (wrap64 (t181))) := (blk_cell BK185.out 1).trans rfl; have hcz45_2 : w44.cell? ⟨gb185, 2, none⟩ = some (.int .i64 (wrap64 (t183))) := (blk_cell BK185.out 2).trans rfl; have hcz45_3 : w44.cell? ⟨gb185, 3, none⟩ = some (.int .u64 t186) := (blk_cell BK185.out 3).trans rfl; have hcz45_4 : w44.cell? ⟨gb185, 4, none⟩ = some (.int .i64 t187) := (blk_cell BK185.out 4).trans rfl; have hcz45_5 : w44.cell? ⟨gb185, 5, none⟩ = some (.int .u64 x186005_7) := (blk_cell BK185.out 5).trans rfl; have hcz45_6 : w44.cell? ⟨gb185, 6, none⟩ = some (.int .i64 x186006_25) := (blk_cell BK185.out 6).trans rfl; have hcz45_7 : w44.cell? ⟨gb185, 7, none⟩ = some (.int .i64 (wrap64 (t197))) := (blk_cell BK185.out 7).trans rfl; have hcz45_8 : w44.cell? ⟨gb185, 8, none⟩ = some (.string t199) := (blk_cell BK185.out 8).trans rfl; have hcz45_9 : w44.cell? ⟨gb185, 9, none⟩ = some (.string (⟨#[]⟩ : ByteArray)) := (blk_cell BK185.out 9).trans rfl; have hcz45_10 : w44.cell? ⟨gb185, 10, none⟩ = some (.bool false) := (blk_cell BK185.out 10).trans rfl; have hcz45_11 : w44.cell? ⟨gb185, 11, none⟩ = some (.int .i64 0) := (blk_cell BK185.out 11).trans rfl; have hfz45_0 := blk_frozen BK185.out 0; have hfz45_1 := blk_frozen BK185.out 1; have hfz45_2 := blk_frozen BK185.out 2; have hfz45_3 := blk_frozen BK185.out 3; have hfz45_4 := blk_frozen BK185.out 4; have hfz45_5 := blk_frozen BK185.out 5; have hfz45_6 := blk_frozen BK185.out 6; have hfz45_7 := blk_frozen BK185.out 7; have hfz45_8 := blk_frozen BK185.out 8; have hfz45_9 := blk_frozen BK185.out 9; have hfz45_10 := blk_frozen BK185.out 10; have hfz45_11 := blk_frozen BK185.out 11))
              go_meet
              case rel => exact ⟨_, (t202), (wrap64 (t197)), (t199), (t201), H', ⟨by have := HJ7.out; have := HJ25.out; first | omega | exact Nat.le_refl _⟩, ⟨by (with_reducible repeat (first | refine blk_drewN ?_ _ | refine blk_drew ?_ | refine blk_alloc ?_ _)); refine blk_far ?_ NB176_185.out _; (with_reducible repeat (first | refine blk_drewN ?_ _ | refine blk_drew ?_ | refine blk_alloc ?_ _)); exact BK176.out⟩, ⟨by (with_reducible repeat (first | refine blk_drewN ?_ _ | refine blk_drew ?_ | refine blk_alloc ?_ _)); refine blk_put (cs := #[.int .i64 (wrap64 (t179)), .int .i64 (wrap64 (t181)), .int .i64 (wrap64 (t183)), .int .u64 t186, .int .i64 t187, .int .u64 x186005_7, .int .i64 x186006_25, .int .i64 (wrap64 (t197)), .string t199, .string (⟨#[]⟩ : ByteArray), .bool false, .int .i64 0]) ?_ 9 _ rfl; (with_reducible repeat (first | refine blk_drewN ?_ _ | refine blk_drew ?_ | refine blk_alloc ?_ _)); exact BK185.out⟩, ⟨by repeat (first | (with_reducible first | exact HI178.out | apply IsS64.alloc | apply IsS64.drewN | apply IsS64.drew | apply IsS64.set_0 | refine IsS64.far ?_ NB178_176.out _ | refine IsS64.far ?_ NB178_185.out _) | exact HI178.out)⟩, ⟨by repeat (first | (with_reducible first | exact HB.out | apply below_alloc | apply pw_below_drewN | apply below_drew1 | refine below_set ?_ (IsS64.ge HI178.out) | refine below_set ?_ GE176.out | refine below_set ?_ GE185.out) | exact HB.out)⟩⟩
            · replace c34 := Bool.eq_false_iff.mpr c34
              subst c34
              have H1 : (msg_Decode.j2 kj25 t192 x179000_25 (wrap64 (t179)) (wrap64 (t181)) (wrap64 (t183)) t186 t187 x186005_7 x186006_25 0 (⟨#[]⟩ : ByteArray) (⟨#[]⟩ : ByteArray) false 0) = some (r1, r2, r3, r4, r5, r6, r7, r8, r9, r10, r11, r12, r13) := by rw [if_neg (show ¬ (false = true) by decide)] at H; exact H
              clear H
              have H := H1
              clear H1
              have H' := Aside0.mk H
              clear H
              go_wp2
              go_meet
              case rel => exact ⟨_, (x179000_25), (0), ((⟨#[]⟩ : ByteArray)), ((⟨#[]⟩ : ByteArray)), H', ⟨by have := HJ7.out; have := HJ25.out; first | omega | exact Nat.le_refl _⟩, ⟨by (with_reducible repeat (first | refine blk_drewN ?_ _ | refine blk_drew ?_ | refine blk_alloc ?_ _)); exact BK176.out⟩, ⟨by (with_reducible repeat (first | refine blk_drewN ?_ _ | refine blk_drew ?_ | refine blk_alloc ?_ _)); exact BK185.out⟩, ⟨by repeat (first | (with_reducible first | exact HI178.out | apply IsS64.alloc | apply IsS64.drewN | apply IsS64.drew | apply IsS64.set_0 | refine IsS64.far ?_ NB178_176.out _ | refine IsS64.far ?_ NB178_185.out _) | exact HI178.out)⟩, ⟨by repeat (first | (with_reducible first | exact HB.out | apply below_alloc | apply pw_below_drewN | apply below_drew1 | refine below_set ?_ (IsS64.ge HI178.out) | refine below_set ?_ GE176.out | refine below_set ?_ GE185.out) | exact HB.out)⟩⟩
          case rest =>
            clear HC33
            try clear c1
            try clear c2
            try clear p2
            try clear c3
            try clear c4
            try clear p6
            try clear c15
            try clear c16
            try clear c20
            try clear c21
            try clear c22
            try clear c23
            try clear c24
            try clear c26
            try clear c27
            try clear c30
            try clear c31
            try clear c33
            try clear c34
            try clear c36
            try clear c39
            try clear c40
            try clear hcz17_0
            try clear hcz17_1
            try clear hcz17_10
            try clear hcz17_11
            try clear hcz17_2
            try clear hcz17_3
            try clear hcz17_4
            try clear hcz17_5
            try clear hcz17_6
            try clear hcz17_7
            try clear hcz17_8
            try clear hcz17_9
            try clear hcz19_0
            try clear hcz19_1
            try clear hcz19_10
            try clear hcz19_11
            try clear hcz19_2
            try clear hcz19_3
            try clear hcz19_4
            try clear hcz19_5
            try clear hcz19_6
            try clear hcz19_7
            try clear hcz19_8
            try clear hcz19_9
            try clear hcz25_0
            try clear hcz25_1
            try clear hcz25_10
            try clear hcz25_11
            try clear hcz25_2
            try clear hcz25_3
            try clear hcz25_4
            try clear hcz25_5
            try clear hcz25_6
            try clear hcz25_7
            try clear hcz25_8
            try clear hcz25_9
            try clear hcz32_0
            try clear hcz32_1
            try clear hcz32_10
            try clear hcz32_11
            try clear hcz32_2
            try clear hcz32_3
            try clear hcz32_4
            try clear hcz32_5
            try clear hcz32_6
            try clear hcz32_7
            try clear hcz32_8
            try clear hcz32_9
            try clear hcz41_0
            try clear hcz41_1
            try clear hcz41_10
            try clear hcz41_11
            try clear hcz41_2
            try clear hcz41_3
            try clear hcz41_4
            try clear hcz41_5
            try clear hcz41_6
            try clear hcz41_7
            try clear hcz41_8
            try clear hcz41_9
            try clear hcz43_0
            try clear hcz43_1
            try clear hcz43_10
            try clear hcz43_11
            try clear hcz43_2
            try clear hcz43_3
            try clear hcz43_4
            try clear hcz43_5
            try clear hcz43_6
            try clear hcz43_7
            try clear hcz43_8
            try clear hcz43_9
            try clear hcz45_0
            try clear hcz45_1
            try clear hcz45_10
            try clear hcz45_11
            try clear hcz45_2
            try clear hcz45_3
            try clear hcz45_4
            try clear hcz45_5
            try clear hcz45_6
            try clear hcz45_7
            try clear hcz45_8
            try clear hcz45_9
            try clear hfz17_0
            try clear hfz17_1
            try clear hfz17_10
            try clear hfz17_11
            try clear hfz17_2
            try clear hfz17_3
            try clear hfz17_4
            try clear hfz17_5
            try clear hfz17_6
            try clear hfz17_7
            try clear hfz17_8
            try clear hfz17_9
            try clear hfz19_0
            try clear hfz19_1
            try clear hfz19_10
            try clear hfz19_11
            try clear hfz19_2
            try clear hfz19_3
            try clear hfz19_4
            try clear hfz19_5
            try clear hfz19_6
            try clear hfz19_7
            try clear hfz19_8
            try clear hfz19_9
            try clear hfz25_0
            try clear hfz25_1
            try clear hfz25_10
            try clear hfz25_11
            try clear hfz25_2
            try clear hfz25_3
            try clear hfz25_4
            try clear hfz25_5
            try clear hfz25_6
            try clear hfz25_7
            try clear hfz25_8
            try clear hfz25_9
            try clear hfz32_0
            try clear hfz32_1
            try clear hfz32_10
            try clear hfz32_11
            try clear hfz32_2
            try clear hfz32_3
            try clear hfz32_4
            try clear hfz32_5
            try clear hfz32_6
            try clear hfz32_7
            try clear hfz32_8
            try clear hfz32_9
            try clear hfz41_0
            try clear hfz41_1
            try clear hfz41_10
            try clear hfz41_11
            try clear hfz41_2
            try clear hfz41_3
            try clear hfz41_4
            try clear hfz41_5
            try clear hfz41_6
            try clear hfz41_7
            try clear hfz41_8
            try clear hfz41_9
            try clear hfz43_0
            try clear hfz43_1
            try clear hfz43_10
            try clear hfz43_11
            try clear hfz43_2
            try clear hfz43_3
            try clear hfz43_4
            try clear hfz43_5
            try clear hfz43_6
            try clear hfz43_7
            try clear hfz43_8
            try clear hfz43_9
            try clear hfz45_0
            try clear hfz45_1
            try clear hfz45_10
            try clear hfz45_11
            try clear hfz45_2
            try clear hfz45_3
            try clear hfz45_4
            try clear hfz45_5
            try clear hfz45_6
            try clear hfz45_7
            try clear hfz45_8
            try clear hfz45_9
            try clear p2
            try clear p6
            obtain ⟨kq, x179000_32, x186007_32, x186008_32, x186009_32, HA, HJ32, BK176, BK185, HI178, HB⟩ := hcut
            cases kq with
            | zero => exact absurd HA.out (by simp [msg_Decode.j2])
            | succ kj32 =>
              have H := HA.out
              clear HA
              simp only [msg_Decode.j2] at H
              have HC46 := Aside0.mk H
              clear H
              go_upto_if 53 with (fail)
              go_cut [] (fun wc => ∃ (kq : Nat) (x179000_45 : RdS) (x186011_45 : Int), Aside0 (msg_Decode.j3 kq x179000_45 (wrap64 (t179)) (wrap64 (t181)) (wrap64 (t183)) t186 t187 x186005_7 x186006_25 x186007_32 x186008_32 x186009_32 false x186011_45 = some (r1, r2, r3, r4, r5, r6, r7, r8, r9, r10, r11, r12, r13)) ∧ Aside0 (kq ≤ kj32) ∧ Aside0 (wc.heap[gb176]? = some (.cells #[.int .i64 0, .int .i64 0, .int .i64 0, .int .u64 0, .int .i64 0, .int .u64 0, .int .i64 0, .int .i64 0, .string (⟨#[]⟩ : ByteArray), .string (⟨#[]⟩ : ByteArray), .bool false, .int .i64 0] 47 (0, 0))) ∧ Aside0 (wc.heap[gb185]? = some (.cells #[.int .i64 (wrap64 (t179)), .int .i64 (wrap64 (t181)), .int .i64 (wrap64 (t183)), .int .u64 t186, .int .i64 t187, .int .u64 x186005_7, .int .i64 x186006_25, .int .i64 x186007_32, .string x186008_32, .string x186009_32, .bool false, .int .i64 x186011_45] 47 (0, 0))) ∧ Aside0 (IsS64 w wc g178 x179000_45) ∧ Aside0 (Below w.heap.size w wc))
              case first =>
                have H := HC46.out
                clear HC46
                by_cases c47 : t192 = true
                · subst c47
                  have H1 : ((num_Reader_Num.f x179000_32 17).bind fun bt203 => (msg_Decode.j3 kj32 bt203.2 (wrap64 (t179)) (wrap64 (t181)) (wrap64 (t183)) t186 t187 x186005_7 x186006_25 x186007_32 x186008_32 x186009_32 false (wrap64 (bt203.1)))) = some (r1, r2, r3, r4, r5, r6, r7, r8, r9, r10, r11, r12, r13) := by rw [if_pos rfl] at H; exact H
                  clear H
                  have H := H1
                  clear H1
                  replace H := Option.bind_eq_some_iff.mp H
                  obtain ⟨⟨t203, t204⟩, A480, H⟩ := H
                  replace H : (msg_Decode.j3 kj32 t204 (wrap64 (t179)) (wrap64 (t181)) (wrap64 (t183)) t186 t187 x186005_7 x186006_25 x186007_32 x186008_32 x186009_32 false (wrap64 (t203))) = some (r1, r2, r3, r4, r5, r6, r7, r8, r9, r10, r11, r12, r13) := H
                  have A48 := Aside0.mk A480
                  clear A480
                  have H' := Aside0.mk H
                  clear H
                  go_wp2_with (first | ((with_reducible refine gate_callee (f := 23) rfl ?_); refine goesL_ (some 55) rfl rfl Try.func23 (by kernel_rfl) rfl #[.pointer (some ⟨g178, 0, none⟩), .int .u64 17] rfl (by (try simp only [List.map_toArray, List.map_cons, List.map_nil]); first | done | rfl | (simp only [List.length_drop, List.length_take]; rfl)) ?_; (with_reducible refine (num_Reader_Num.calls g178 x179000_32 17 t203 t204 w _ ?side1 ?side2 A48.out).mono ?_); (case side1 => repeat (first | (with_reducible first | exact HI178.out | apply IsS64.alloc | apply IsS64.drewN | apply IsS64.drew | apply IsS64.set_0 | refine IsS64.far ?_ NB178_176.out _ | refine IsS64.far ?_ NB178_185.out _) | exact HI178.out)); (case side2 => repeat (first | (with_reducible first | exact HB.out | apply below_alloc | apply pw_below_drewN | apply below_drew1 | refine below_set ?_ (IsS64.ge HI178.out) | refine below_set ?_ GE176.out | refine below_set ?_ GE185.out) | exact HB.out)); rintro e w49 ⟨rfl, hi, hb, hk⟩; refine ⟨_, rfl, ?_⟩; have n0_ := Aside0.mk (KeepBut.blk hk (g' := gb176) (o := .cells #[.int .i64 0, .int .i64 0, .int .i64 0, .int .u64 0, .int .i64 0, .int .u64 0, .int .i64 0, .int .i64 0, .string (⟨#[]⟩ : ByteArray), .string (⟨#[]⟩ : ByteArray), .bool false, .int .i64 0] 47 (0, 0)) (by (with_reducible repeat (first | refine blk_drewN ?_ _ | refine blk_drew ?_ | refine blk_alloc ?_ _)); exact BK176.out) NB176_178.out (by simp)); have n1_ := Aside0.mk (KeepBut.blk hk (g' := gb185) (o := .cells #[.int .i64 (wrap64 (t179)), .int .i64 (wrap64 (t181)), .int .i64 (wrap64 (t183)), .int .u64 t186, .int .i64 t187, .int .u64 x186005_7, .int .i64 x186006_25, .int .i64 x186007_32, .string x186008_32, .string x186009_32, .bool false, .int .i64 0] 47 (0, 0)) (by (with_reducible repeat (first | refine blk_drewN ?_ _ | refine blk_drew ?_ | refine blk_alloc ?_ _)); exact BK185.out) NB185_178.out (by simp)); have n2_ := Aside0.mk (hb); have n3_ := Aside0.mk (hi); clear BK176; clear BK185; clear HB; clear HI178; have BK176 := n0_; have BK185 := n1_; have HB := n2_; have HI178 := n3_; clear n0_ n1_ n2_ n3_; (try clear hb); (try clear hb2); (try clear hk); (try clear hi); have hnb50 := NB185_176.out; have hnc50 := NB176_185.out; have hnb51 := NB185_178.out; have hnc51 := NB178_185.out; have hcz52_0 : w49.cell? ⟨gb185, 0, none⟩ = some (.int .i64 (wrap64 (t179))) := (blk_cell BK185.out 0).trans rfl; have hcz52_1 : w49.cell? ⟨gb185, 1, none⟩ = some (.int .i64 (wrap64 (t181))) := (blk_cell BK185.out 1).trans rfl; have hcz52_2 : w49.cell? ⟨gb185, 2, none⟩ = some (.int .i64 (wrap64 (t183))) := (blk_cell BK185.out 2).trans rfl; have hcz52_3 : w49.cell? ⟨gb185, 3, none⟩ = some (.int .u64 t186) := (blk_cell BK185.out 3).trans rfl; have hcz52_4 : w49.cell? ⟨gb185, 4, none⟩ = some (.int .i64 t187) := (blk_cell BK185.out 4).trans rfl; have hcz52_5 : w49.cell? ⟨gb185, 5, none⟩ = some (.int .u64 x186005_7) := (blk_cell BK185.out 5).trans rfl; have hcz52_6 : w49.cell? ⟨gb185, 6, none⟩ = some (.int .i64 x186006_25) := (blk_cell BK185.out 6).trans rfl; have hcz52_7 : w49.cell? ⟨gb185, 7, none⟩ = some (.int .i64 x186007_32) := (blk_cell BK185.out 7).trans rfl; have hcz52_8 : w49.cell? ⟨gb185, 8, none⟩ = some (.string x186008_32) := (blk_cell BK185.out 8).trans rfl; have hcz52_9 : w49.cell? ⟨gb185, 9, none⟩ = some (.string x186009_32) := (blk_cell BK185.out 9).trans rfl; have hcz52_10 : w49.cell? ⟨gb185, 10, none⟩ = some (.bool false) := (blk_cell BK185.out 10).trans rfl; have hcz52_11 : w49.cell? ⟨gb185, 11, none⟩ = some (.int .i64 0) := (blk_cell BK185.out 11).trans rfl; have hfz52_0 := blk_frozen BK185.out 0; have hfz52_1 := blk_frozen BK185.out 1; have hfz52_2 := blk_frozen BK185.out 2; have hfz52_3 := blk_frozen BK185.out 3; have hfz52_4 := blk_frozen BK185.out 4; have hfz52_5 := blk_frozen BK185.out 5; have hfz52_6 := blk_frozen BK185.out 6; have hfz52_7 := blk_frozen BK185.out 7; have hfz52_8 := blk_frozen BK185.out 8; have hfz52_9 := blk_frozen BK185.out 9; have hfz52_10 := blk_frozen BK185.out 10; have hfz52_11 := blk_frozen BK185.out 11))
                  go_meet
                  case rel => exact ⟨_, (t204), (wrap64 (t203)), H', ⟨by have := HJ7.out; have := HJ25.out; have := HJ32.out; first | omega | exact Nat.le_refl _⟩, ⟨by (with_reducible repeat (first | refine blk_drewN ?_ _ | refine blk_drew ?_ | refine blk_alloc ?_ _)); refine blk_far ?_ NB176_185.out _; (with_reducible repeat (first | refine blk_drewN ?_ _ | refine blk_drew ?_ | refine blk_alloc ?_ _)); exact BK176.out⟩, ⟨by (with_reducible repeat (first | refine blk_drewN ?_ _ | refine blk_drew ?_ | refine blk_alloc ?_ _)); refine blk_put (cs := #[.int .i64 (wrap64 (t179)), .int .i64 (wrap64 (t181)), .int .i64 (wrap64 (t183)), .int .u64 t186, .int .i64 t187, .int .u64 x186005_7, .int .i64 x186006_25, .int .i64 x186007_32, .string x186008_32, .string x186009_32, .bool false, .int .i64 0]) ?_ 11 _ rfl; (with_reducible repeat (first | refine blk_drewN ?_ _ | refine blk_drew ?_ | refine blk_alloc ?_ _)); exact BK185.out⟩, ⟨by repeat (first | (with_reducible first | exact HI178.out | apply IsS64.alloc | apply IsS64.drewN | apply IsS64.drew | apply IsS64.set_0 | refine IsS64.far ?_ NB178_176.out _ | refine IsS64.far ?_ NB178_185.out _) | exact HI178.out)⟩, ⟨by repeat (first | (with_reducible first | exact HB.out | apply below_alloc | apply pw_below_drewN | apply below_drew1 | refine below_set ?_ (IsS64.ge HI178.out) | refine below_set ?_ GE176.out | refine below_set ?_ GE185.out) | exact HB.out)⟩⟩
                · replace c47 := Bool.eq_false_iff.mpr c47
                  subst c47
                  have H1 : (msg_Decode.j3 kj32 x179000_32 (wrap64 (t179)) (wrap64 (t181)) (wrap64 (t183)) t186 t187 x186005_7 x186006_25 x186007_32 x186008_32 x186009_32 false 0) = some (r1, r2, r3, r4, r5, r6, r7, r8, r9, r10, r11, r12, r13) := by rw [if_neg (show ¬ (false = true) by decide)] at H; exact H
                  clear H
                  have H := H1
                  clear H1
                  have H' := Aside0.mk H
                  clear H
                  go_wp2
                  go_meet
                  case rel => exact ⟨_, (x179000_32), (0), H', ⟨by have := HJ7.out; have := HJ25.out; have := HJ32.out; first | omega | exact Nat.le_refl _⟩, ⟨by (with_reducible repeat (first | refine blk_drewN ?_ _ | refine blk_drew ?_ | refine blk_alloc ?_ _)); exact BK176.out⟩, ⟨by (with_reducible repeat (first | refine blk_drewN ?_ _ | refine blk_drew ?_ | refine blk_alloc ?_ _)); exact BK185.out⟩, ⟨by repeat (first | (with_reducible first | exact HI178.out | apply IsS64.alloc | apply IsS64.drewN | apply IsS64.drew | apply IsS64.set_0 | refine IsS64.far ?_ NB178_176.out _ | refine IsS64.far ?_ NB178_185.out _) | exact HI178.out)⟩, ⟨by repeat (first | (with_reducible first | exact HB.out | apply below_alloc | apply pw_below_drewN | apply below_drew1 | refine below_set ?_ (IsS64.ge HI178.out) | refine below_set ?_ GE176.out | refine below_set ?_ GE185.out) | exact HB.out)⟩⟩
              case rest =>
                clear HC46
                try clear c1
                try clear c2
                try clear p2
                try clear c3
                try clear c4
                try clear c5
                try clear p6
                try clear c15
                try clear c16
                try clear c20
                try clear c21
                try clear c22
                try clear c23
                try clear c24
                try clear c26
                try clear c27
                try clear c30
                try clear c31
                try clear c33
                try clear c34
                try clear c36
                try clear c39
                try clear c40
                try clear c47
                try clear c50
                try clear c51
                try clear hcz17_0
                try clear hcz17_1
                try clear hcz17_10
                try clear hcz17_11
                try clear hcz17_2
                try clear hcz17_3
                try clear hcz17_4
                try clear hcz17_5
                try clear hcz17_6
                try clear hcz17_7
                try clear hcz17_8
                try clear hcz17_9
                try clear hcz19_0
                try clear hcz19_1
                try clear hcz19_10
                try clear hcz19_11
                try clear hcz19_2
                try clear hcz19_3
                try clear hcz19_4
                try clear hcz19_5
                try clear hcz19_6
                try clear hcz19_7
                try clear hcz19_8
                try clear hcz19_9
                try clear hcz25_0
                try clear hcz25_1
                try clear hcz25_10
                try clear hcz25_11
                try clear hcz25_2
                try clear hcz25_3
                try clear hcz25_4
                try clear hcz25_5
                try clear hcz25_6
                try clear hcz25_7
                try clear hcz25_8
                try clear hcz25_9
                try clear hcz32_0
                try clear hcz32_1
                try clear hcz32_10
                try clear hcz32_11
                try clear hcz32_2
                try clear hcz32_3
                try clear hcz32_4
                try clear hcz32_5
                try clear hcz32_6
                try clear hcz32_7
                try clear hcz32_8
                try clear hcz32_9
                try clear hcz41_0
                try clear hcz41_1
                try clear hcz41_10
                try clear hcz41_11
                try clear hcz41_2
                try clear hcz41_3
                try clear hcz41_4
                try clear hcz41_5
                try clear hcz41_6
                try clear hcz41_7
                try clear hcz41_8
                try clear hcz41_9
                try clear hcz43_0
                try clear hcz43_1
                try clear hcz43_10
                try clear hcz43_11
                try clear hcz43_2
                try clear hcz43_3
                try clear hcz43_4
                try clear hcz43_5
                try clear hcz43_6
                try clear hcz43_7
                try clear hcz43_8
                try clear hcz43_9
                try clear hcz45_0
                try clear hcz45_1
                try clear hcz45_10
                try clear hcz45_11
                try clear hcz45_2
                try clear hcz45_3
                try clear hcz45_4
                try clear hcz45_5
                try clear hcz45_6
                try clear hcz45_7
                try clear hcz45_8
                try clear hcz45_9
                try clear hcz52_0
                try clear hcz52_1
                try clear hcz52_10
                try clear hcz52_11
                try clear hcz52_2
                try clear hcz52_3
                try clear hcz52_4
                try clear hcz52_5
                try clear hcz52_6
                try clear hcz52_7
                try clear hcz52_8
                try clear hcz52_9
                try clear hfz17_0
                try clear hfz17_1
                try clear hfz17_10
                try clear hfz17_11
                try clear hfz17_2
                try clear hfz17_3
                try clear hfz17_4
                try clear hfz17_5
                try clear hfz17_6
                try clear hfz17_7
                try clear hfz17_8
                try clear hfz17_9
                try clear hfz19_0
                try clear hfz19_1
                try clear hfz19_10
                try clear hfz19_11
                try clear hfz19_2
                try clear hfz19_3
                try clear hfz19_4
                try clear hfz19_5
                try clear hfz19_6
                try clear hfz19_7
                try clear hfz19_8
                try clear hfz19_9
                try clear hfz25_0
                try clear hfz25_1
                try clear hfz25_10
                try clear hfz25_11
                try clear hfz25_2
                try clear hfz25_3
                try clear hfz25_4
                try clear hfz25_5
                try clear hfz25_6
                try clear hfz25_7
                try clear hfz25_8
                try clear hfz25_9
                try clear hfz32_0
                try clear hfz32_1
                try clear hfz32_10
                try clear hfz32_11
                try clear hfz32_2
                try clear hfz32_3
                try clear hfz32_4
                try clear hfz32_5
                try clear hfz32_6
                try clear hfz32_7
                try clear hfz32_8
                try clear hfz32_9
                try clear hfz41_0
                try clear hfz41_1
                try clear hfz41_10
                try clear hfz41_11
                try clear hfz41_2
                try clear hfz41_3
                try clear hfz41_4
                try clear hfz41_5
                try clear hfz41_6
                try clear hfz41_7
                try clear hfz41_8
                try clear hfz41_9
                try clear hfz43_0
                try clear hfz43_1
                try clear hfz43_10
                try clear hfz43_11
                try clear hfz43_2
                try clear hfz43_3
                try clear hfz43_4
                try clear hfz43_5
                try clear hfz43_6
                try clear hfz43_7
                try clear hfz43_8
                try clear hfz43_9
                try clear hfz45_0
                try clear hfz45_1
                try clear hfz45_10
                try clear hfz45_11
                try clear hfz45_2
                try clear hfz45_3
                try clear hfz45_4
                try clear hfz45_5
                try clear hfz45_6
                try clear hfz45_7
                try clear hfz45_8
                try clear hfz45_9
                try clear hfz52_0
                try clear hfz52_1
                try clear hfz52_10
                try clear hfz52_11
                try clear hfz52_2
                try clear hfz52_3
                try clear hfz52_4
                try clear hfz52_5
                try clear hfz52_6
                try clear hfz52_7
                try clear hfz52_8
                try clear hfz52_9
                try clear p2
                try clear p6
                obtain ⟨kq, x179000_45, x186011_45, HA, HJ45, BK176, BK185, HI178, HB⟩ := hcut
                cases kq with
                | zero => exact absurd HA.out (by simp [msg_Decode.j3])
                | succ kj45 =>
                  have H := HA.out
                  clear HA
                  simp only [msg_Decode.j3] at H
                  have HC53 := Aside0.mk H
                  clear H
                  have hnb54 := NB185_176.out
                  have hnc54 := NB176_185.out
                  have hnb55 := NB185_178.out
                  have hnc55 := NB178_185.out
                  have hcz56_0 : wc.cell? ⟨gb185, 0, none⟩ = some (.int .i64 (wrap64 (t179))) := (blk_cell BK185.out 0).trans rfl
                  have hcz56_1 : wc.cell? ⟨gb185, 1, none⟩ = some (.int .i64 (wrap64 (t181))) := (blk_cell BK185.out 1).trans rfl
                  have hcz56_2 : wc.cell? ⟨gb185, 2, none⟩ = some (.int .i64 (wrap64 (t183))) := (blk_cell BK185.out 2).trans rfl
                  have hcz56_3 : wc.cell? ⟨gb185, 3, none⟩ = some (.int .u64 t186) := (blk_cell BK185.out 3).trans rfl
                  have hcz56_4 : wc.cell? ⟨gb185, 4, none⟩ = some (.int .i64 t187) := (blk_cell BK185.out 4).trans rfl
                  have hcz56_5 : wc.cell? ⟨gb185, 5, none⟩ = some (.int .u64 x186005_7) := (blk_cell BK185.out 5).trans rfl
                  have hcz56_6 : wc.cell? ⟨gb185, 6, none⟩ = some (.int .i64 x186006_25) := (blk_cell BK185.out 6).trans rfl
                  have hcz56_7 : wc.cell? ⟨gb185, 7, none⟩ = some (.int .i64 x186007_32) := (blk_cell BK185.out 7).trans rfl
                  have hcz56_8 : wc.cell? ⟨gb185, 8, none⟩ = some (.string x186008_32) := (blk_cell BK185.out 8).trans rfl
                  have hcz56_9 : wc.cell? ⟨gb185, 9, none⟩ = some (.string x186009_32) := (blk_cell BK185.out 9).trans rfl
                  have hcz56_10 : wc.cell? ⟨gb185, 10, none⟩ = some (.bool false) := (blk_cell BK185.out 10).trans rfl
                  have hcz56_11 : wc.cell? ⟨gb185, 11, none⟩ = some (.int .i64 x186011_45) := (blk_cell BK185.out 11).trans rfl
                  have hfz56_0 := blk_frozen BK185.out 0
                  have hfz56_1 := blk_frozen BK185.out 1
                  have hfz56_2 := blk_frozen BK185.out 2
                  have hfz56_3 := blk_frozen BK185.out 3
                  have hfz56_4 := blk_frozen BK185.out 4
                  have hfz56_5 := blk_frozen BK185.out 5
                  have hfz56_6 := blk_frozen BK185.out 6
                  have hfz56_7 := blk_frozen BK185.out 7
                  have hfz56_8 := blk_frozen BK185.out 8
                  have hfz56_9 := blk_frozen BK185.out 9
                  have hfz56_10 := blk_frozen BK185.out 10
                  have hfz56_11 := blk_frozen BK185.out 11
                  go_upto_if 60 with (fail)
                  go_cut [] (fun wc => ∃ (kq : Nat) (x179000_52 : RdS) (x186009_52 : ByteArray) (x186010_52 : Bool), Aside0 (msg_Decode.j4 kq x179000_52 (wrap64 (t179)) (wrap64 (t181)) (wrap64 (t183)) t186 t187 x186005_7 x186006_25 x186007_32 x186008_32 x186009_52 x186010_52 x186011_45 = some (r1, r2, r3, r4, r5, r6, r7, r8, r9, r10, r11, r12, r13)) ∧ Aside0 (kq ≤ kj45) ∧ Aside0 (wc.heap[gb176]? = some (.cells #[.int .i64 0, .int .i64 0, .int .i64 0, .int .u64 0, .int .i64 0, .int .u64 0, .int .i64 0, .int .i64 0, .string (⟨#[]⟩ : ByteArray), .string (⟨#[]⟩ : ByteArray), .bool false, .int .i64 0] 47 (0, 0))) ∧ Aside0 (wc.heap[gb185]? = some (.cells #[.int .i64 (wrap64 (t179)), .int .i64 (wrap64 (t181)), .int .i64 (wrap64 (t183)), .int .u64 t186, .int .i64 t187, .int .u64 x186005_7, .int .i64 x186006_25, .int .i64 x186007_32, .string x186008_32, .string x186009_52, .bool x186010_52, .int .i64 x186011_45] 47 (0, 0))) ∧ Aside0 (IsS64 w wc g178 x179000_52) ∧ Aside0 (Below w.heap.size w wc))
                  case first =>
                    have H := HC53.out
                    clear HC53
                    by_cases c57 : (wrap64 (t179)) = 4
                    · rw [if_pos c57] at H
                      have c57b0 : ((wrap64 (t179)) == 4) = true := beq_iff_eq.mpr c57
                      have c57b1 : ((wrap64 (t179)) != 4) = false := bne_eq_false_iff_eq.mpr c57
                      clear c57
                      (first | rw [c57b0] | (simp only [i64_w, i32_w]; rw [c57b0]) | skip)
                      replace H := Option.bind_eq_some_iff.mp H
                      obtain ⟨⟨t205, t206⟩, A580, H⟩ := H
                      replace H : ((num_Reader_Text.f t206 48).bind fun bt207 => (msg_Decode.j4 kj45 bt207.2 (wrap64 (t179)) (wrap64 (t181)) (wrap64 (t183)) t186 t187 x186005_7 x186006_25 x186007_32 x186008_32 bt207.1 (t205 == 1) x186011_45)) = some (r1, r2, r3, r4, r5, r6, r7, r8, r9, r10, r11, r12, r13) := H
                      have A58 := Aside0.mk A580
                      clear A580
                      replace H := Option.bind_eq_some_iff.mp H
                      obtain ⟨⟨t207, t208⟩, A590, H⟩ := H
                      replace H : (msg_Decode.j4 kj45 t208 (wrap64 (t179)) (wrap64 (t181)) (wrap64 (t183)) t186 t187 x186005_7 x186006_25 x186007_32 x186008_32 t207 (t205 == 1) x186011_45) = some (r1, r2, r3, r4, r5, r6, r7, r8, r9, r10, r11, r12, r13) := H
                      have A59 := Aside0.mk A590
                      clear A590
                      have H' := Aside0.mk H
                      clear H
                      go_wp2_with (first | ((with_reducible refine gate_callee (f := 23) rfl ?_); refine goesL_ (some 62) rfl rfl Try.func23 (by kernel_rfl) rfl #[.pointer (some ⟨g178, 0, none⟩), .int .u64 1] rfl (by (try simp only [List.map_toArray, List.map_cons, List.map_nil]); first | done | rfl | (simp only [List.length_drop, List.length_take]; rfl)) ?_; (with_reducible refine (num_Reader_Num.calls g178 x179000_45 1 t205 t206 w _ ?side1 ?side2 A58.out).mono ?_); (case side1 => repeat (first | (with_reducible first | exact HI178.out | apply IsS64.alloc | apply IsS64.drewN | apply IsS64.drew | apply IsS64.set_0 | refine IsS64.far ?_ NB178_176.out _ | refine IsS64.far ?_ NB178_185.out _) | exact HI178.out)); (case side2 => repeat (first | (with_reducible first | exact HB.out | apply below_alloc | apply pw_below_drewN | apply below_drew1 | refine below_set ?_ (IsS64.ge HI178.out) | refine below_set ?_ GE176.out | refine below_set ?_ GE185.out) | exact HB.out)); rintro e w60 ⟨rfl, hi, hb, hk⟩; refine ⟨_, rfl, ?_⟩; have n0_ := Aside0.mk (KeepBut.blk hk (g' := gb176) (o := .cells #[.int .i64 0, .int .i64 0, .int .i64 0, .int .u64 0, .int .i64 0, .int .u64 0, .int .i64 0, .int .i64 0, .string (⟨#[]⟩ : ByteArray), .string (⟨#[]⟩ : ByteArray), .bool false, .int .i64 0] 47 (0, 0)) (by (with_reducible repeat (first | refine blk_drewN ?_ _ | refine blk_drew ?_ | refine blk_alloc ?_ _)); exact BK176.out) NB176_178.out (by simp)); have n1_ := Aside0.mk (KeepBut.blk hk (g' := gb185) (o := .cells #[.int .i64 (wrap64 (t179)), .int .i64 (wrap64 (t181)), .int .i64 (wrap64 (t183)), .int .u64 t186, .int .i64 t187, .int .u64 x186005_7, .int .i64 x186006_25, .int .i64 x186007_32, .string x186008_32, .string x186009_32, .bool false, .int .i64 x186011_45] 47 (0, 0)) (by (with_reducible repeat (first | refine blk_drewN ?_ _ | refine blk_drew ?_ | refine blk_alloc ?_ _)); exact BK185.out) NB185_178.out (by simp)); have n2_ := Aside0.mk (hb); have n3_ := Aside0.mk (hi); clear BK176; clear BK185; clear HB; clear HI178; have BK176 := n0_; have BK185 := n1_; have HB := n2_; have HI178 := n3_; clear n0_ n1_ n2_ n3_; (try clear hb); (try clear hb2); (try clear hk); (try clear hi); have hnb61 := NB185_176.out; have hnc61 := NB176_185.out; have hnb62 := NB185_178.out; have hnc62 := NB178_185.out; have hcz63_0 : w60.cell? ⟨gb185, 0, none⟩ = some (.int .i64 (wrap64 (t179))) := (blk_cell BK185.out 0).trans rfl; have hcz63_1 : w60.cell? ⟨gb185, 1, none⟩ = some (.int .i64 (wrap64 (t181))) := (blk_cell BK185.out 1).trans rfl; have hcz63_2 : w60.cell? ⟨gb185, 2, none⟩ = some (.int .i64 (wrap64 (t183))) := (blk_cell BK185.out 2).trans rfl; have hcz63_3 : w60.cell? ⟨gb185, 3, none⟩ = some (.int .u64 t186) := (blk_cell BK185.out 3).trans rfl; have hcz63_4 : w60.cell? ⟨gb185, 4, none⟩ = some (.int .i64 t187) := (blk_cell BK185.out 4).trans rfl; have hcz63_5 : w60.cell? ⟨gb185, 5, none⟩ = some (.int .u64 x186005_7) := (blk_cell BK185.out 5).trans rfl; have hcz63_6 : w60.cell? ⟨gb185, 6, none⟩ = some (.int .i64 x186006_25) := (blk_cell BK185.out 6).trans rfl; have hcz63_7 : w60.cell? ⟨gb185, 7, none⟩ = some (.int .i64 x186007_32) := (blk_cell BK185.out 7).trans rfl; have hcz63_8 : w60.cell? ⟨gb185, 8, none⟩ = some (.string x186008_32) := (blk_cell BK185.out 8).trans rfl; have hcz63_9 : w60.cell? ⟨gb185, 9, none⟩ = some (.string x186009_32) := (blk_cell BK185.out 9).trans rfl; have hcz63_10 : w60.cell? ⟨gb185, 10, none⟩ = some (.bool false) := (blk_cell BK185.out 10).trans rfl; have hcz63_11 : w60.cell? ⟨gb185, 11, none⟩ = some (.int .i64 x186011_45) := (blk_cell BK185.out 11).trans rfl; have hfz63_0 := blk_frozen BK185.out 0; have hfz63_1 := blk_frozen BK185.out 1; have hfz63_2 := blk_frozen BK185.out 2; have hfz63_3 := blk_frozen BK185.out 3; have hfz63_4 := blk_frozen BK185.out 4; have hfz63_5 := blk_frozen BK185.out 5; have hfz63_6 := blk_frozen BK185.out 6; have hfz63_7 := blk_frozen BK185.out 7; have hfz63_8 := blk_frozen BK185.out 8; have hfz63_9 := blk_frozen BK185.out 9; have hfz63_10 := blk_frozen BK185.out 10; have hfz63_11 := blk_frozen BK185.out 11) | ((with_reducible refine gate_callee (f := 26) rfl ?_); refine goesL_ (some 66) rfl rfl Try.func26 (by kernel_rfl) rfl #[.pointer (some ⟨g178, 0, none⟩), .int .i64 48] rfl (by (try simp only [List.map_toArray, List.map_cons, List.map_nil]); first | done | rfl | (simp only [List.length_drop, List.length_take]; rfl)) ?_; (with_reducible refine (num_Reader_Text.calls g178 t206 48 t207 t208 w _ ?side1 ?side2 A59.out).mono ?_); (case side1 => repeat (first | (with_reducible first | exact HI178.out | apply IsS64.alloc | apply IsS64.drewN | apply IsS64.drew | apply IsS64.set_0 | refine IsS64.far ?_ NB178_176.out _ | refine IsS64.far ?_ NB178_185.out _) | exact HI178.out)); (case side2 => repeat (first | (with_reducible first | exact HB.out | apply below_alloc | apply pw_below_drewN | apply below_drew1 | refine below_set ?_ (IsS64.ge HI178.out) | refine below_set ?_ GE176.out | refine below_set ?_ GE185.out) | exact HB.out)); rintro e w64 ⟨rfl, hi, hb, hk⟩; refine ⟨_, rfl, ?_⟩; have n0_ := Aside0.mk (KeepBut.blk hk (g' := gb176) (o := .cells #[.int .i64 0, .int .i64 0, .int .i64 0, .int .u64 0, .int .i64 0, .int .u64 0, .int .i64 0, .int .i64 0, .string (⟨#[]⟩ : ByteArray), .string (⟨#[]⟩ : ByteArray), .bool false, .int .i64 0] 47 (0, 0)) (by (with_reducible repeat (first | refine blk_drewN ?_ _ | refine blk_drew ?_ | refine blk_alloc ?_ _)); refine blk_far ?_ NB176_185.out _; (with_reducible repeat (first | refine blk_drewN ?_ _ | refine blk_drew ?_ | refine blk_alloc ?_ _)); exact BK176.out) NB176_178.out (by simp)); have n1_ := Aside0.mk (KeepBut.blk hk (g' := gb185) (o := .cells #[.int .i64 (wrap64 (t179)), .int .i64 (wrap64 (t181)), .int .i64 (wrap64 (t183)), .int .u64 t186, .int .i64 t187, .int .u64 x186005_7, .int .i64 x186006_25, .int .i64 x186007_32, .string x186008_32, .string x186009_32, .bool (t205 == 1), .int .i64 x186011_45] 47 (0, 0)) (by (with_reducible repeat (first | refine blk_drewN ?_ _ | refine blk_drew ?_ | refine blk_alloc ?_ _)); refine blk_put (cs := #[.int .i64 (wrap64 (t179)), .int .i64 (wrap64 (t181)), .int .i64 (wrap64 (t183)), .int .u64 t186, .int .i64 t187, .int .u64 x186005_7, .int .i64 x186006_25, .int .i64 x186007_32, .string x186008_32, .string x186009_32, .bool false, .int .i64 x186011_45]) ?_ 10 _ rfl; (with_reducible repeat (first | refine blk_drewN ?_ _ | refine blk_drew ?_ | refine blk_alloc ?_ _)); exact BK185.out) NB185_178.out (by simp)); have n2_ := Aside0.mk (hb); have n3_ := Aside0.mk (hi); clear BK176; clear BK185; clear HB; clear HI178; have BK176 := n0_; have BK185 := n1_; have HB := n2_; have HI178 := n3_; clear n0_ n1_ n2_ n3_; (try clear hb); (try clear hb2); (try clear hk); (try clear hi); have hcz65_0 : w64.cell? ⟨gb185, 0, none⟩ = some (.int .i64 (wrap64 (t179))) := (blk_cell BK185.out 0).trans rfl; have hcz65_1 : w64.cell? ⟨gb185, 1, none⟩ = some (.int .i64 (wrap64 (t181))) := (blk_cell BK185.out 1).trans rfl; have hcz65_2 : w64.cell? ⟨gb185, 2, none⟩ = some (.int .i64 (wrap64 (t183))) := (blk_cell BK185.out 2).trans rfl; have hcz65_3 : w64.cell? ⟨gb185, 3, none⟩ = some (.int .u64 t186) := (blk_cell BK185.out 3).trans rfl; have hcz65_4 : w64.cell? ⟨gb185, 4, none⟩ = some (.int .i64 t187) := (blk_cell BK185.out 4).trans rfl; have hcz65_5 : w64.cell? ⟨gb185, 5, none⟩ = some (.int .u64 x186005_7) := (blk_cell BK185.out 5).trans rfl; have hcz65_6 : w64.cell? ⟨gb185, 6, none⟩ = some (.int .i64 x186006_25) := (blk_cell BK185.out 6).trans rfl; have hcz65_7 : w64.cell? ⟨gb185, 7, none⟩ = some (.int .i64 x186007_32) := (blk_cell BK185.out 7).trans rfl; have hcz65_8 : w64.cell? ⟨gb185, 8, none⟩ = some (.string x186008_32) := (blk_cell BK185.out 8).trans rfl; have hcz65_9 : w64.cell? ⟨gb185, 9, none⟩ = some (.string x186009_32) := (blk_cell BK185.out 9).trans rfl; have hcz65_10 : w64.cell? ⟨gb185, 10, none⟩ = some (.bool (t205 == 1)) := (blk_cell BK185.out 10).trans rfl; have hcz65_11 : w64.cell? ⟨gb185, 11, none⟩ = some (.int .i64 x186011_45) := (blk_cell BK185.out 11).trans rfl; have hfz65_0 := blk_frozen BK185.out 0; have hfz65_1 := blk_frozen BK185.out 1; have hfz65_2 := blk_frozen BK185.out 2; have hfz65_3 := blk_frozen BK185.out 3; have hfz65_4 := blk_frozen BK185.out 4; have hfz65_5 := blk_frozen BK185.out 5; have hfz65_6 := blk_frozen BK185.out 6; have hfz65_7 := blk_frozen BK185.out 7; have hfz65_8 := blk_frozen BK185.out 8; have hfz65_9 := blk_frozen BK185.out 9; have hfz65_10 := blk_frozen BK185.out 10; have hfz65_11 := blk_frozen BK185.out 11))
                      go_meet
                      case rel => exact ⟨_, (t208), (t207), ((t205 == 1)), H', ⟨by have := HJ7.out; have := HJ25.out; have := HJ32.out; have := HJ45.out; first | omega | exact Nat.le_refl _⟩, ⟨by (with_reducible repeat (first | refine blk_drewN ?_ _ | refine blk_drew ?_ | refine blk_alloc ?_ _)); refine blk_far ?_ NB176_185.out _; (with_reducible repeat (first | refine blk_drewN ?_ _ | refine blk_drew ?_ | refine blk_alloc ?_ _)); exact BK176.out⟩, ⟨by (with_reducible repeat (first | refine blk_drewN ?_ _ | refine blk_drew ?_ | refine blk_alloc ?_ _)); refine blk_put (cs := #[.int .i64 (wrap64 (t179)), .int .i64 (wrap64 (t181)), .int .i64 (wrap64 (t183)), .int .u64 t186, .int .i64 t187, .int .u64 x186005_7, .int .i64 x186006_25, .int .i64 x186007_32, .string x186008_32, .string x186009_32, .bool (t205 == 1), .int .i64 x186011_45]) ?_ 9 _ rfl; (with_reducible repeat (first | refine blk_drewN ?_ _ | refine blk_drew ?_ | refine blk_alloc ?_ _)); exact BK185.out⟩, ⟨by repeat (first | (with_reducible first | exact HI178.out | apply IsS64.alloc | apply IsS64.drewN | apply IsS64.drew | apply IsS64.set_0 | refine IsS64.far ?_ NB178_176.out _ | refine IsS64.far ?_ NB178_185.out _) | exact HI178.out)⟩, ⟨by repeat (first | (with_reducible first | exact HB.out | apply below_alloc | apply pw_below_drewN | apply below_drew1 | refine below_set ?_ (IsS64.ge HI178.out) | refine below_set ?_ GE176.out | refine below_set ?_ GE185.out) | exact HB.out)⟩⟩
                    · rw [if_neg c57] at H
                      have c57b0 : ((wrap64 (t179)) == 4) = false := beq_eq_false_iff_ne.mpr c57
                      have c57b1 : ((wrap64 (t179)) != 4) = true := bne_iff_ne.mpr c57
                      (first | rw [c57b0] | (simp only [i64_w, i32_w]; rw [c57b0]) | skip)
                      have H' := Aside0.mk H
                      clear H
                      go_wp2
                      go_meet
                      case rel => exact ⟨_, (x179000_45), (x186009_32), (false), H', ⟨by have := HJ7.out; have := HJ25.out; have := HJ32.out; have := HJ45.out; first | omega | exact Nat.le_refl _⟩, ⟨by (with_reducible repeat (first | refine blk_drewN ?_ _ | refine blk_drew ?_ | refine blk_alloc ?_ _)); exact BK176.out⟩, ⟨by (with_reducible repeat (first | refine blk_drewN ?_ _ | refine blk_drew ?_ | refine blk_alloc ?_ _)); exact BK185.out⟩, ⟨by repeat (first | (with_reducible first | exact HI178.out | apply IsS64.alloc | apply IsS64.drewN | apply IsS64.drew | apply IsS64.set_0 | refine IsS64.far ?_ NB178_176.out _ | refine IsS64.far ?_ NB178_185.out _) | exact HI178.out)⟩, ⟨by repeat (first | (with_reducible first | exact HB.out | apply below_alloc | apply pw_below_drewN | apply below_drew1 | refine below_set ?_ (IsS64.ge HI178.out) | refine below_set ?_ GE176.out | refine below_set ?_ GE185.out) | exact HB.out)⟩⟩
                  case rest =>
                    clear HC53
                    try clear c1
                    try clear c2
                    try clear p2
                    try clear c3
                    try clear c4
                    try clear c5
                    try clear c6
                    try clear p6
                    try clear c15
                    try clear c16
                    try clear c20
                    try clear c21
                    try clear c22
                    try clear c23
                    try clear c24
                    try clear c26
                    try clear c27
                    try clear c30
                    try clear c31
                    try clear c33
                    try clear c34
                    try clear c36
                    try clear c39
                    try clear c40
                    try clear c47
                    try clear c50
                    try clear c51
                    try clear c54
                    try clear c55
                    try clear c57
                    try clear c57b0
                    try clear c57b1
                    try clear c61
                    try clear c62
                    try clear p64
                    try clear hcz17_0
                    try clear hcz17_1
                    try clear hcz17_10
                    try clear hcz17_11
                    try clear hcz17_2
                    try clear hcz17_3
                    try clear hcz17_4
                    try clear hcz17_5
                    try clear hcz17_6
                    try clear hcz17_7
                    try clear hcz17_8
                    try clear hcz17_9
                    try clear hcz19_0
                    try clear hcz19_1
                    try clear hcz19_10
                    try clear hcz19_11
                    try clear hcz19_2
                    try clear hcz19_3
                    try clear hcz19_4
                    try clear hcz19_5
                    try clear hcz19_6
                    try clear hcz19_7
                    try clear hcz19_8
                    try clear hcz19_9
                    try clear hcz25_0
                    try clear hcz25_1
                    try clear hcz25_10
                    try clear hcz25_11
                    try clear hcz25_2
                    try clear hcz25_3
                    try clear hcz25_4
                    try clear hcz25_5
                    try clear hcz25_6
                    try clear hcz25_7
                    try clear hcz25_8
                    try clear hcz25_9
                    try clear hcz32_0
                    try clear hcz32_1
                    try clear hcz32_10
                    try clear hcz32_11
                    try clear hcz32_2
                    try clear hcz32_3
                    try clear hcz32_4
                    try clear hcz32_5
                    try clear hcz32_6
                    try clear hcz32_7
                    try clear hcz32_8
                    try clear hcz32_9
                    try clear hcz41_0
                    try clear hcz41_1
                    try clear hcz41_10
                    try clear hcz41_11
                    try clear hcz41_2
                    try clear hcz41_3
                    try clear hcz41_4
                    try clear hcz41_5
                    try clear hcz41_6
                    try clear hcz41_7
                    try clear hcz41_8
                    try clear hcz41_9
                    try clear hcz43_0
                    try clear hcz43_1
                    try clear hcz43_10
                    try clear hcz43_11
                    try clear hcz43_2
                    try clear hcz43_3
                    try clear hcz43_4
                    try clear hcz43_5
                    try clear hcz43_6
                    try clear hcz43_7
                    try clear hcz43_8
                    try clear hcz43_9
                    try clear hcz45_0
                    try clear hcz45_1
                    try clear hcz45_10
                    try clear hcz45_11
                    try clear hcz45_2
                    try clear hcz45_3
                    try clear hcz45_4
                    try clear hcz45_5
                    try clear hcz45_6
                    try clear hcz45_7
                    try clear hcz45_8
                    try clear hcz45_9
                    try clear hcz52_0
                    try clear hcz52_1
                    try clear hcz52_10
                    try clear hcz52_11
                    try clear hcz52_2
                    try clear hcz52_3
                    try clear hcz52_4
                    try clear hcz52_5
                    try clear hcz52_6
                    try clear hcz52_7
                    try clear hcz52_8
                    try clear hcz52_9
                    try clear hcz56_0
                    try clear hcz56_1
                    try clear hcz56_10
                    try clear hcz56_11
                    try clear hcz56_2
                    try clear hcz56_3
                    try clear hcz56_4
                    try clear hcz56_5
                    try clear hcz56_6
                    try clear hcz56_7
                    try clear hcz56_8
                    try clear hcz56_9
                    try clear hcz63_0
                    try clear hcz63_1
                    try clear hcz63_10
                    try clear hcz63_11
                    try clear hcz63_2
                    try clear hcz63_3
                    try clear hcz63_4
                    try clear hcz63_5
                    try clear hcz63_6
                    try clear hcz63_7
                    try clear hcz63_8
                    try clear hcz63_9
                    try clear hcz65_0
                    try clear hcz65_1
                    try clear hcz65_10
                    try clear hcz65_11
                    try clear hcz65_2
                    try clear hcz65_3
                    try clear hcz65_4
                    try clear hcz65_5
                    try clear hcz65_6
                    try clear hcz65_7
                    try clear hcz65_8
                    try clear hcz65_9
                    try clear hfz17_0
                    try clear hfz17_1
                    try clear hfz17_10
                    try clear hfz17_11
                    try clear hfz17_2
                    try clear hfz17_3
                    try clear hfz17_4
                    try clear hfz17_5
                    try clear hfz17_6
                    try clear hfz17_7
                    try clear hfz17_8
                    try clear hfz17_9
                    try clear hfz19_0
                    try clear hfz19_1
                    try clear hfz19_10
                    try clear hfz19_11
                    try clear hfz19_2
                    try clear hfz19_3
                    try clear hfz19_4
                    try clear hfz19_5
                    try clear hfz19_6
                    try clear hfz19_7
                    try clear hfz19_8
                    try clear hfz19_9
                    try clear hfz25_0
                    try clear hfz25_1
                    try clear hfz25_10
                    try clear hfz25_11
                    try clear hfz25_2
                    try clear hfz25_3
                    try clear hfz25_4
                    try clear hfz25_5
                    try clear hfz25_6
                    try clear hfz25_7
                    try clear hfz25_8
                    try clear hfz25_9
                    try clear hfz32_0
                    try clear hfz32_1
                    try clear hfz32_10
                    try clear hfz32_11
                    try clear hfz32_2
                    try clear hfz32_3
                    try clear hfz32_4
                    try clear hfz32_5
                    try clear hfz32_6
                    try clear hfz32_7
                    try clear hfz32_8
                    try clear hfz32_9
                    try clear hfz41_0
                    try clear hfz41_1
                    try clear hfz41_10
                    try clear hfz41_11
                    try clear hfz41_2
                    try clear hfz41_3
                    try clear hfz41_4
                    try clear hfz41_5
                    try clear hfz41_6
                    try clear hfz41_7
                    try clear hfz41_8
                    try clear hfz41_9
                    try clear hfz43_0
                    try clear hfz43_1
                    try clear hfz43_10
                    try clear hfz43_11
                    try clear hfz43_2
                    try clear hfz43_3
                    try clear hfz43_4
                    try clear hfz43_5
                    try clear hfz43_6
                    try clear hfz43_7
                    try clear hfz43_8
                    try clear hfz43_9
                    try clear hfz45_0
                    try clear hfz45_1
                    try clear hfz45_10
                    try clear hfz45_11
                    try clear hfz45_2
                    try clear hfz45_3
                    try clear hfz45_4
                    try clear hfz45_5
                    try clear hfz45_6
                    try clear hfz45_7
                    try clear hfz45_8
                    try clear hfz45_9
                    try clear hfz52_0
                    try clear hfz52_1
                    try clear hfz52_10
                    try clear hfz52_11
                    try clear hfz52_2
                    try clear hfz52_3
                    try clear hfz52_4
                    try clear hfz52_5
                    try clear hfz52_6
                    try clear hfz52_7
                    try clear hfz52_8
                    try clear hfz52_9
                    try clear hfz56_0
                    try clear hfz56_1
                    try clear hfz56_10
                    try clear hfz56_11
                    try clear hfz56_2
                    try clear hfz56_3
                    try clear hfz56_4
                    try clear hfz56_5
                    try clear hfz56_6
                    try clear hfz56_7
                    try clear hfz56_8
                    try clear hfz56_9
                    try clear hfz63_0
                    try clear hfz63_1
                    try clear hfz63_10
                    try clear hfz63_11
                    try clear hfz63_2
                    try clear hfz63_3
                    try clear hfz63_4
                    try clear hfz63_5
                    try clear hfz63_6
                    try clear hfz63_7
                    try clear hfz63_8
                    try clear hfz63_9
                    try clear hfz65_0
                    try clear hfz65_1
                    try clear hfz65_10
                    try clear hfz65_11
                    try clear hfz65_2
                    try clear hfz65_3
                    try clear hfz65_4
                    try clear hfz65_5
                    try clear hfz65_6
                    try clear hfz65_7
                    try clear hfz65_8
                    try clear hfz65_9
                    try clear p2
                    try clear p6
                    obtain ⟨kq, x179000_52, x186009_52, x186010_52, HA, HJ52, BK176, BK185, HI178, HB⟩ := hcut
                    cases kq with
                    | zero => exact absurd HA.out (by simp [msg_Decode.j4])
                    | succ kj52 =>
                      have H := HA.out
                      clear HA
                      simp only [msg_Decode.j4] at H
                      replace H := Option.bind_eq_some_iff.mp H
                      obtain ⟨⟨t209, t210⟩, A660, H⟩ := H
                      replace H : (if t209 = 0 then ((msg_Msg_Right.f (wrap64 (t179)) (wrap64 (t181)) (wrap64 (t183)) t186 t187 x186005_7 x186006_25 x186007_32 x186008_32 x186009_52 x186010_52 x186011_45).bind fun t211 => (if t211 = true then (some ((wrap64 (t179)), (wrap64 (t181)), (wrap64 (t183)), t186, t187, x186005_7, x186006_25, x186007_32, x186008_32, x186009_52, x186010_52, x186011_45, 0)) else (some (0, 0, 0, 0, 0, 0, 0, 0, (⟨#[]⟩ : ByteArray), (⟨#[]⟩ : ByteArray), false, 0, 11)))) else (some (0, 0, 0, 0, 0, 0, 0, 0, (⟨#[]⟩ : ByteArray), (⟨#[]⟩ : ByteArray), false, 0, 11))) = some (r1, r2, r3, r4, r5, r6, r7, r8, r9, r10, r11, r12, r13) := H
                      have A66 := Aside0.mk A660
                      clear A660
                      by_cases c67 : t209 = 0
                      · rw [if_pos c67] at H
                        have c67b0 : (t209 == 0) = true := beq_iff_eq.mpr c67
                        have c67b1 : (t209 != 0) = false := bne_eq_false_iff_eq.mpr c67
                        clear c67
                        replace H := Option.bind_eq_some_iff.mp H
                        obtain ⟨t211, A680, H⟩ := H
                        replace H : (if t211 = true then (some ((wrap64 (t179)), (wrap64 (t181)), (wrap64 (t183)), t186, t187, x186005_7, x186006_25, x186007_32, x186008_32, x186009_52, x186010_52, x186011_45, 0)) else (some (0, 0, 0, 0, 0, 0, 0, 0, (⟨#[]⟩ : ByteArray), (⟨#[]⟩ : ByteArray), false, 0, 11))) = some (r1, r2, r3, r4, r5, r6, r7, r8, r9, r10, r11, r12, r13) := H
                        have A68 := Aside0.mk A680
                        clear A680
                        by_cases c69 : t211 = true
                        · subst c69
                          have H1 : (some ((wrap64 (t179)), (wrap64 (t181)), (wrap64 (t183)), t186, t187, x186005_7, x186006_25, x186007_32, x186008_32, x186009_52, x186010_52, x186011_45, 0)) = some (r1, r2, r3, r4, r5, r6, r7, r8, r9, r10, r11, r12, r13) := by rw [if_pos rfl] at H; exact H
                          clear H
                          have H := H1
                          clear H1
                          simp only [Option.some.injEq, Prod.mk.injEq] at H
                          obtain ⟨rfl, rfl, rfl, rfl, rfl, rfl, rfl, rfl, rfl, rfl, rfl, rfl, rfl⟩ := H
                          go_wp2_with (first | ((with_reducible refine gate_callee (f := 29) rfl ?_); refine goesL_ (some 69) rfl rfl Try.func29 (by kernel_rfl) rfl #[.pointer (some ⟨g178, 0, none⟩)] rfl (by (try simp only [List.map_toArray, List.map_cons, List.map_nil]); first | done | rfl | (simp only [List.length_drop, List.length_take]; rfl)) ?_; (with_reducible refine (num_Reader_End.calls g178 x179000_52 t209 t210 w _ ?side1 ?side2 A66.out).mono ?_); (case side1 => repeat (first | (with_reducible first | exact HI178.out | apply IsS64.alloc | apply IsS64.drewN | apply IsS64.drew | apply IsS64.set_0 | refine IsS64.far ?_ NB178_176.out _ | refine IsS64.far ?_ NB178_185.out _) | exact HI178.out)); (case side2 => repeat (first | (with_reducible first | exact HB.out | apply below_alloc | apply pw_below_drewN | apply below_drew1 | refine below_set ?_ (IsS64.ge HI178.out) | refine below_set ?_ GE176.out | refine below_set ?_ GE185.out) | exact HB.out)); rintro e w70 ⟨rfl, hi, hb, hk⟩; refine ⟨_, rfl, ?_⟩; have n0_ := Aside0.mk (KeepBut.blk hk (g' := gb176) (o := .cells #[.int .i64 0, .int .i64 0, .int .i64 0, .int .u64 0, .int .i64 0, .int .u64 0, .int .i64 0, .int .i64 0, .string (⟨#[]⟩ : ByteArray), .string (⟨#[]⟩ : ByteArray), .bool false, .int .i64 0] 47 (0, 0)) (by (with_reducible repeat (first | refine blk_drewN ?_ _ | refine blk_drew ?_ | refine blk_alloc ?_ _)); exact BK176.out) NB176_178.out (by simp)); have n1_ := Aside0.mk (KeepBut.blk hk (g' := gb185) (o := .cells #[.int .i64 (wrap64 (t179)), .int .i64 (wrap64 (t181)), .int .i64 (wrap64 (t183)), .int .u64 t186, .int .i64 t187, .int .u64 x186005_7, .int .i64 x186006_25, .int .i64 x186007_32, .string x186008_32, .string x186009_52, .bool x186010_52, .int .i64 x186011_45] 47 (0, 0)) (by (with_reducible repeat (first | refine blk_drewN ?_ _ | refine blk_drew ?_ | refine blk_alloc ?_ _)); exact BK185.out) NB185_178.out (by simp)); have n2_ := Aside0.mk (hb); have n3_ := Aside0.mk (hi); clear BK176; clear BK185; clear HB; clear HI178; have BK176 := n0_; have BK185 := n1_; have HB := n2_; have HI178 := n3_; clear n0_ n1_ n2_ n3_; (try clear hb); (try clear hb2); (try clear hk); (try clear hi); have hnb71 := NB185_176.out; have hnc71 := NB176_185.out; have hnb72 := NB185_178.out; have hnc72 := NB178_185.out; have hcz73_0 : w70.cell? ⟨gb185, 0, none⟩ = some (.int .i64 (wrap64 (t179))) := (blk_cell BK185.out 0).trans rfl; have hcz73_1 : w70.cell? ⟨gb185, 1, none⟩ = some (.int .i64 (wrap64 (t181))) := (blk_cell BK185.out 1).trans rfl; have hcz73_2 : w70.cell? ⟨gb185, 2, none⟩ = some (.int .i64 (wrap64 (t183))) := (blk_cell BK185.out 2).trans rfl; have hcz73_3 : w70.cell? ⟨gb185, 3, none⟩ = some (.int .u64 t186) := (blk_cell BK185.out 3).trans rfl; have hcz73_4 : w70.cell? ⟨gb185, 4, none⟩ = some (.int .i64 t187) := (blk_cell BK185.out 4).trans rfl; have hcz73_5 : w70.cell? ⟨gb185, 5, none⟩ = some (.int .u64 x186005_7) := (blk_cell BK185.out 5).trans rfl; have hcz73_6 : w70.cell? ⟨gb185, 6, none⟩ = some (.int .i64 x186006_25) := (blk_cell BK185.out 6).trans rfl; have hcz73_7 : w70.cell? ⟨gb185, 7, none⟩ = some (.int .i64 x186007_32) := (blk_cell BK185.out 7).trans rfl; have hcz73_8 : w70.cell? ⟨gb185, 8, none⟩ = some (.string x186008_32) := (blk_cell BK185.out 8).trans rfl; have hcz73_9 : w70.cell? ⟨gb185, 9, none⟩ = some (.string x186009_52) := (blk_cell BK185.out 9).trans rfl; have hcz73_10 : w70.cell? ⟨gb185, 10, none⟩ = some (.bool x186010_52) := (blk_cell BK185.out 10).trans rfl; have hcz73_11 : w70.cell? ⟨gb185, 11, none⟩ = some (.int .i64 x186011_45) := (blk_cell BK185.out 11).trans rfl; have hfz73_0 := blk_frozen BK185.out 0; have hfz73_1 := blk_frozen BK185.out 1; have hfz73_2 := blk_frozen BK185.out 2; have hfz73_3 := blk_frozen BK185.out 3; have hfz73_4 := blk_frozen BK185.out 4; have hfz73_5 := blk_frozen BK185.out 5; have hfz73_6 := blk_frozen BK185.out 6; have hfz73_7 := blk_frozen BK185.out 7; have hfz73_8 := blk_frozen BK185.out 8; have hfz73_9 := blk_frozen BK185.out 9; have hfz73_10 := blk_frozen BK185.out 10; have hfz73_11 := blk_frozen BK185.out 11) | (go_at_call 31; (with_reducible refine (msg_Msg_Right.calls (wrap64 (t179)) (wrap64 (t181)) (wrap64 (t183)) t186 t187 x186005_7 x186006_25 x186007_32 x186008_32 x186009_52 x186010_52 x186011_45 true _ A68.out).mono ?_); rintro e w74 ⟨rfl, hb⟩; have n0_ := Aside0.mk (blk_below (g := gb176) (o := .cells #[.int .i64 0, .int .i64 0, .int .i64 0, .int .u64 0, .int .i64 0, .int .u64 0, .int .i64 0, .int .i64 0, .string (⟨#[]⟩ : ByteArray), .string (⟨#[]⟩ : ByteArray), .bool false, .int .i64 0] 47 (0, 0)) (by (with_reducible repeat (first | refine blk_drewN ?_ _ | refine blk_drew ?_ | refine blk_alloc ?_ _)); exact BK176.out) hb); have n1_ := Aside0.mk (blk_below (g := gb185) (o := .cells #[.int .i64 (wrap64 (t179)), .int .i64 (wrap64 (t181)), .int .i64 (wrap64 (t183)), .int .u64 t186, .int .i64 t187, .int .u64 x186005_7, .int .i64 x186006_25, .int .i64 x186007_32, .string x186008_32, .string x186009_52, .bool x186010_52, .int .i64 x186011_45] 47 (0, 0)) (by (with_reducible repeat (first | refine blk_drewN ?_ _ | refine blk_drew ?_ | refine blk_alloc ?_ _)); exact BK185.out) hb); have n2_ := Aside0.mk (IsS64.below (by repeat (first | (with_reducible first | exact HI178.out | apply IsS64.alloc | apply IsS64.drewN | apply IsS64.drew | apply IsS64.set_0 | refine IsS64.far ?_ NB178_176.out _ | refine IsS64.far ?_ NB178_185.out _) | exact HI178.out)) hb); have n3_ := Aside0.mk (below_step (by repeat (first | (with_reducible first | exact HB.out | apply below_alloc | apply pw_below_drewN | apply below_drew1 | refine below_set ?_ (IsS64.ge HI178.out) | refine below_set ?_ GE176.out | refine below_set ?_ GE185.out) | exact HB.out)) hb); clear BK176; clear BK185; clear HI178; clear HB; have BK176 := n0_; have BK185 := n1_; have HI178 := n2_; have HB := n3_; clear n0_ n1_ n2_ n3_; (try clear hb); (try clear hb2); (try clear hk); (try clear hi); have hcz75_0 : w74.cell? ⟨gb185, 0, none⟩ = some (.int .i64 (wrap64 (t179))) := (blk_cell BK185.out 0).trans rfl; have hcz75_1 : w74.cell? ⟨gb185, 1, none⟩ = some (.int .i64 (wrap64 (t181))) := (blk_cell BK185.out 1).trans rfl; have hcz75_2 : w74.cell? ⟨gb185, 2, none⟩ = some (.int .i64 (wrap64 (t183))) := (blk_cell BK185.out 2).trans rfl; have hcz75_3 : w74.cell? ⟨gb185, 3, none⟩ = some (.int .u64 t186) := (blk_cell BK185.out 3).trans rfl; have hcz75_4 : w74.cell? ⟨gb185, 4, none⟩ = some (.int .i64 t187) := (blk_cell BK185.out 4).trans rfl; have hcz75_5 : w74.cell? ⟨gb185, 5, none⟩ = some (.int .u64 x186005_7) := (blk_cell BK185.out 5).trans rfl; have hcz75_6 : w74.cell? ⟨gb185, 6, none⟩ = some (.int .i64 x186006_25) := (blk_cell BK185.out 6).trans rfl; have hcz75_7 : w74.cell? ⟨gb185, 7, none⟩ = some (.int .i64 x186007_32) := (blk_cell BK185.out 7).trans rfl; have hcz75_8 : w74.cell? ⟨gb185, 8, none⟩ = some (.string x186008_32) := (blk_cell BK185.out 8).trans rfl; have hcz75_9 : w74.cell? ⟨gb185, 9, none⟩ = some (.string x186009_52) := (blk_cell BK185.out 9).trans rfl; have hcz75_10 : w74.cell? ⟨gb185, 10, none⟩ = some (.bool x186010_52) := (blk_cell BK185.out 10).trans rfl; have hcz75_11 : w74.cell? ⟨gb185, 11, none⟩ = some (.int .i64 x186011_45) := (blk_cell BK185.out 11).trans rfl; have hfz75_0 := blk_frozen BK185.out 0; have hfz75_1 := blk_frozen BK185.out 1; have hfz75_2 := blk_frozen BK185.out 2; have hfz75_3 := blk_frozen BK185.out 3; have hfz75_4 := blk_frozen BK185.out 4; have hfz75_5 := blk_frozen BK185.out 5; have hfz75_6 := blk_frozen BK185.out 6; have hfz75_7 := blk_frozen BK185.out 7; have hfz75_8 := blk_frozen BK185.out 8; have hfz75_9 := blk_frozen BK185.out 9; have hfz75_10 := blk_frozen BK185.out 10; have hfz75_11 := blk_frozen BK185.out 11; have hnb76 := NB176_178.out; have hnc76 := NB178_176.out; have hcz77_0 : w74.cell? ⟨gb176, 0, none⟩ = some (.int .i64 0) := (blk_cell BK176.out 0).trans rfl; have hcz77_1 : w74.cell? ⟨gb176, 1, none⟩ = some (.int .i64 0) := (blk_cell BK176.out 1).trans rfl; have hcz77_2 : w74.cell? ⟨gb176, 2, none⟩ = some (.int .i64 0) := (blk_cell BK176.out 2).trans rfl; have hcz77_3 : w74.cell? ⟨gb176, 3, none⟩ = some (.int .u64 0) := (blk_cell BK176.out 3).trans rfl; have hcz77_4 : w74.cell? ⟨gb176, 4, none⟩ = some (.int .i64 0) := (blk_cell BK176.out 4).trans rfl; have hcz77_5 : w74.cell? ⟨gb176, 5, none⟩ = some (.int .u64 0) := (blk_cell BK176.out 5).trans rfl; have hcz77_6 : w74.cell? ⟨gb176, 6, none⟩ = some (.int .i64 0) := (blk_cell BK176.out 6).trans rfl; have hcz77_7 : w74.cell? ⟨gb176, 7, none⟩ = some (.int .i64 0) := (blk_cell BK176.out 7).trans rfl; have hcz77_8 : w74.cell? ⟨gb176, 8, none⟩ = some (.string (⟨#[]⟩ : ByteArray)) := (blk_cell BK176.out 8).trans rfl; have hcz77_9 : w74.cell? ⟨gb176, 9, none⟩ = some (.string (⟨#[]⟩ : ByteArray)) := (blk_cell BK176.out 9).trans rfl; have hcz77_10 : w74.cell? ⟨gb176, 10, none⟩ = some (.bool false) := (blk_cell BK176.out 10).trans rfl; have hcz77_11 : w74.cell? ⟨gb176, 11, none⟩ = some (.int .i64 0) := (blk_cell BK176.out 11).trans rfl; have hfz77_0 := blk_frozen BK176.out 0; have hfz77_1 := blk_frozen BK176.out 1; have hfz77_2 := blk_frozen BK176.out 2; have hfz77_3 := blk_frozen BK176.out 3; have hfz77_4 := blk_frozen BK176.out 4; have hfz77_5 := blk_frozen BK176.out 5; have hfz77_6 := blk_frozen BK176.out 6; have hfz77_7 := blk_frozen BK176.out 7; have hfz77_8 := blk_frozen BK176.out 8; have hfz77_9 := blk_frozen BK176.out 9; have hfz77_10 := blk_frozen BK176.out 10; have hfz77_11 := blk_frozen BK176.out 11))
                          refine bodyPost_ret (results_ct rfl _ _ gb176 47 #[.int .i64 (wrap64 (t179)), .int .i64 (wrap64 (t181)), .int .i64 (wrap64 (t183)), .int .u64 t186, .int .i64 t187, .int .u64 x186005_7, .int .i64 x186006_25, .int .i64 x186007_32, .string x186008_32, .string x186009_52, .bool x186010_52, .int .i64 x186011_45] (0, 0) _ rfl (by (with_reducible repeat (first | refine blk_drewN ?_ _ | refine blk_drew ?_ | refine blk_alloc ?_ _)); refine blk_put (cs := #[.int .i64 (wrap64 (t179)), .int .i64 (wrap64 (t181)), .int .i64 (wrap64 (t183)), .int .u64 t186, .int .i64 t187, .int .u64 x186005_7, .int .i64 x186006_25, .int .i64 x186007_32, .string x186008_32, .string x186009_52, .bool x186010_52, .int .i64 0]) ?_ 11 _ rfl; (with_reducible repeat (first | refine blk_drewN ?_ _ | refine blk_drew ?_ | refine blk_alloc ?_ _)); refine blk_put (cs := #[.int .i64 (wrap64 (t179)), .int .i64 (wrap64 (t181)), .int .i64 (wrap64 (t183)), .int .u64 t186, .int .i64 t187, .int .u64 x186005_7, .int .i64 x186006_25, .int .i64 x186007_32, .string x186008_32, .string x186009_52, .bool false, .int .i64 0]) ?_ 10 _ rfl; (with_reducible repeat (first | refine blk_drewN ?_ _ | refine blk_drew ?_ | refine blk_alloc ?_ _)); refine blk_put (cs := #[.int .i64 (wrap64 (t179)), .int .i64 (wrap64 (t181)), .int .i64 (wrap64 (t183)), .int .u64 t186, .int .i64 t187, .int .u64 x186005_7, .int .i64 x186006_25, .int .i64 x186007_32, .string x186008_32, .string (⟨#[]⟩ : ByteArray), .bool false, .int .i64 0]) ?_ 9 _ rfl; (with_reducible repeat (first | refine blk_drewN ?_ _ | refine blk_drew ?_ | refine blk_alloc ?_ _)); refine blk_put (cs := #[.int .i64 (wrap64 (t179)), .int .i64 (wrap64 (t181)), .int .i64 (wrap64 (t183)), .int .u64 t186, .int .i64 t187, .int .u64 x186005_7, .int .i64 x186006_25, .int .i64 x186007_32, .string (⟨#[]⟩ : ByteArray), .string (⟨#[]⟩ : ByteArray), .bool false, .int .i64 0]) ?_ 8 _ rfl; (with_reducible repeat (first | refine blk_drewN ?_ _ | refine blk_drew ?_ | refine blk_alloc ?_ _)); refine blk_put (cs := #[.int .i64 (wrap64 (t179)), .int .i64 (wrap64 (t181)), .int .i64 (wrap64 (t183)), .int .u64 t186, .int .i64 t187, .int .u64 x186005_7, .int .i64 x186006_25, .int .i64 0, .string (⟨#[]⟩ : ByteArray), .string (⟨#[]⟩ : ByteArray), .bool false, .int .i64 0]) ?_ 7 _ rfl; (with_reducible repeat (first | refine blk_drewN ?_ _ | refine blk_drew ?_ | refine blk_alloc ?_ _)); refine blk_put (cs := #[.int .i64 (wrap64 (t179)), .int .i64 (wrap64 (t181)), .int .i64 (wrap64 (t183)), .int .u64 t186, .int .i64 t187, .int .u64 x186005_7, .int .i64 0, .int .i64 0, .string (⟨#[]⟩ : ByteArray), .string (⟨#[]⟩ : ByteArray), .bool false, .int .i64 0]) ?_ 6 _ rfl; (with_reducible repeat (first | refine blk_drewN ?_ _ | refine blk_drew ?_ | refine blk_alloc ?_ _)); refine blk_put (cs := #[.int .i64 (wrap64 (t179)), .int .i64 (wrap64 (t181)), .int .i64 (wrap64 (t183)), .int .u64 t186, .int .i64 t187, .int .u64 0, .int .i64 0, .int .i64 0, .string (⟨#[]⟩ : ByteArray), .string (⟨#[]⟩ : ByteArray), .bool false, .int .i64 0]) ?_ 5 _ rfl; (with_reducible repeat (first | refine blk_drewN ?_ _ | refine blk_drew ?_ | refine blk_alloc ?_ _)); refine blk_put (cs := #[.int .i64 (wrap64 (t179)), .int .i64 (wrap64 (t181)), .int .i64 (wrap64 (t183)), .int .u64 t186, .int .i64 0, .int .u64 0, .int .i64 0, .int .i64 0, .string (⟨#[]⟩ : ByteArray), .string (⟨#[]⟩ : ByteArray), .bool false, .int .i64 0]) ?_ 4 _ rfl; (with_reducible repeat (first | refine blk_drewN ?_ _ | refine blk_drew ?_ | refine blk_alloc ?_ _)); refine blk_put (cs := #[.int .i64 (wrap64 (t179)), .int .i64 (wrap64 (t181)), .int .i64 (wrap64 (t183)), .int .u64 0, .int .i64 0, .int .u64 0, .int .i64 0, .int .i64 0, .string (⟨#[]⟩ : ByteArray), .string (⟨#[]⟩ : ByteArray), .bool false, .int .i64 0]) ?_ 3 _ rfl; (with_reducible repeat (first | refine blk_drewN ?_ _ | refine blk_drew ?_ | refine blk_alloc ?_ _)); refine blk_put (cs := #[.int .i64 (wrap64 (t179)), .int .i64 (wrap64 (t181)), .int .i64 0, .int .u64 0, .int .i64 0, .int .u64 0, .int .i64 0, .int .i64 0, .string (⟨#[]⟩ : ByteArray), .string (⟨#[]⟩ : ByteArray), .bool false, .int .i64 0]) ?_ 2 _ rfl; (with_reducible repeat (first | refine blk_drewN ?_ _ | refine blk_drew ?_ | refine blk_alloc ?_ _)); refine blk_put (cs := #[.int .i64 (wrap64 (t179)), .int .i64 0, .int .i64 0, .int .u64 0, .int .i64 0, .int .u64 0, .int .i64 0, .int .i64 0, .string (⟨#[]⟩ : ByteArray), .string (⟨#[]⟩ : ByteArray), .bool false, .int .i64 0]) ?_ 1 _ rfl; (with_reducible repeat (first | refine blk_drewN ?_ _ | refine blk_drew ?_ | refine blk_alloc ?_ _)); refine blk_put (cs := #[.int .i64 0, .int .i64 0, .int .i64 0, .int .u64 0, .int .i64 0, .int .u64 0, .int .i64 0, .int .i64 0, .string (⟨#[]⟩ : ByteArray), .string (⟨#[]⟩ : ByteArray), .bool false, .int .i64 0]) ?_ 0 _ rfl; (with_reducible repeat (first | refine blk_drewN ?_ _ | refine blk_drew ?_ | refine blk_alloc ?_ _)); exact BK176.out) Try.underlying47 rfl (by kernel_rfl)) rfl ?_
                          exact ⟨by first | rfl | (simp [errW_none, errW_some] <;> rfl) | (simp [*, errW_none, errW_some] <;> rfl), by repeat (first | (with_reducible first | exact HB.out | apply below_alloc | apply pw_below_drewN | apply below_drew1 | refine below_set ?_ (IsS64.ge HI178.out) | refine below_set ?_ GE176.out | refine below_set ?_ GE185.out) | exact HB.out)⟩
                        · replace c69 := Bool.eq_false_iff.mpr c69
                          subst c69
                          have H1 : (some (0, 0, 0, 0, 0, 0, 0, 0, (⟨#[]⟩ : ByteArray), (⟨#[]⟩ : ByteArray), false, 0, 11)) = some (r1, r2, r3, r4, r5, r6, r7, r8, r9, r10, r11, r12, r13) := by rw [if_neg (show ¬ (false = true) by decide)] at H; exact H
                          clear H
                          have H := H1
                          clear H1
                          simp only [Option.some.injEq, Prod.mk.injEq] at H
                          obtain ⟨rfl, rfl, rfl, rfl, rfl, rfl, rfl, rfl, rfl, rfl, rfl, rfl, rfl⟩ := H
                          go_wp2_with (first | ((with_reducible refine gate_callee (f := 29) rfl ?_); refine goesL_ (some 69) rfl rfl Try.func29 (by kernel_rfl) rfl #[.pointer (some ⟨g178, 0, none⟩)] rfl (by (try simp only [List.map_toArray, List.map_cons, List.map_nil]); first | done | rfl | (simp only [List.length_drop, List.length_take]; rfl)) ?_; (with_reducible refine (num_Reader_End.calls g178 x179000_52 t209 t210 w _ ?side1 ?side2 A66.out).mono ?_); (case side1 => repeat (first | (with_reducible first | exact HI178.out | apply IsS64.alloc | apply IsS64.drewN | apply IsS64.drew | apply IsS64.set_0 | refine IsS64.far ?_ NB178_176.out _ | refine IsS64.far ?_ NB178_185.out _) | exact HI178.out)); (case side2 => repeat (first | (with_reducible first | exact HB.out | apply below_alloc | apply pw_below_drewN | apply below_drew1 | refine below_set ?_ (IsS64.ge HI178.out) | refine below_set ?_ GE176.out | refine below_set ?_ GE185.out) | exact HB.out)); rintro e w78 ⟨rfl, hi, hb, hk⟩; refine ⟨_, rfl, ?_⟩; have n0_ := Aside0.mk (KeepBut.blk hk (g' := gb176) (o := .cells #[.int .i64 0, .int .i64 0, .int .i64 0, .int .u64 0, .int .i64 0, .int .u64 0, .int .i64 0, .int .i64 0, .string (⟨#[]⟩ : ByteArray), .string (⟨#[]⟩ : ByteArray), .bool false, .int .i64 0] 47 (0, 0)) (by (with_reducible repeat (first | refine blk_drewN ?_ _ | refine blk_drew ?_ | refine blk_alloc ?_ _)); exact BK176.out) NB176_178.out (by simp)); have n1_ := Aside0.mk (KeepBut.blk hk (g' := gb185) (o := .cells #[.int .i64 (wrap64 (t179)), .int .i64 (wrap64 (t181)), .int .i64 (wrap64 (t183)), .int .u64 t186, .int .i64 t187, .int .u64 x186005_7, .int .i64 x186006_25, .int .i64 x186007_32, .string x186008_32, .string x186009_52, .bool x186010_52, .int .i64 x186011_45] 47 (0, 0)) (by (with_reducible repeat (first | refine blk_drewN ?_ _ | refine blk_drew ?_ | refine blk_alloc ?_ _)); exact BK185.out) NB185_178.out (by simp)); have n2_ := Aside0.mk (hb); have n3_ := Aside0.mk (hi); clear BK176; clear BK185; clear HB; clear HI178; have BK176 := n0_; have BK185 := n1_; have HB := n2_; have HI178 := n3_; clear n0_ n1_ n2_ n3_; (try clear hb); (try clear hb2); (try clear hk); (try clear hi); have hnb79 := NB185_176.out; have hnc79 := NB176_185.out; have hnb80 := NB185_178.out; have hnc80 := NB178_185.out; have hcz81_0 : w78.cell? ⟨gb185, 0, none⟩ = some (.int .i64 (wrap64 (t179))) := (blk_cell BK185.out 0).trans rfl; have hcz81_1 : w78.cell? ⟨gb185, 1, none⟩ = some (.int .i64 (wrap64 (t181))) := (blk_cell BK185.out 1).trans rfl; have hcz81_2 : w78.cell? ⟨gb185, 2, none⟩ = some (.int .i64 (wrap64 (t183))) := (blk_cell BK185.out 2).trans rfl; have hcz81_3 : w78.cell? ⟨gb185, 3, none⟩ = some (.int .u64 t186) := (blk_cell BK185.out 3).trans rfl; have hcz81_4 : w78.cell? ⟨gb185, 4, none⟩ = some (.int .i64 t187) := (blk_cell BK185.out 4).trans rfl; have hcz81_5 : w78.cell? ⟨gb185, 5, none⟩ = some (.int .u64 x186005_7) := (blk_cell BK185.out 5).trans rfl; have hcz81_6 : w78.cell? ⟨gb185, 6, none⟩ = some (.int .i64 x186006_25) := (blk_cell BK185.out 6).trans rfl; have hcz81_7 : w78.cell? ⟨gb185, 7, none⟩ = some (.int .i64 x186007_32) := (blk_cell BK185.out 7).trans rfl; have hcz81_8 : w78.cell? ⟨gb185, 8, none⟩ = some (.string x186008_32) := (blk_cell BK185.out 8).trans rfl; have hcz81_9 : w78.cell? ⟨gb185, 9, none⟩ = some (.string x186009_52) := (blk_cell BK185.out 9).trans rfl; have hcz81_10 : w78.cell? ⟨gb185, 10, none⟩ = some (.bool x186010_52) := (blk_cell BK185.out 10).trans rfl; have hcz81_11 : w78.cell? ⟨gb185, 11, none⟩ = some (.int .i64 x186011_45) := (blk_cell BK185.out 11).trans rfl; have hfz81_0 := blk_frozen BK185.out 0; have hfz81_1 := blk_frozen BK185.out 1; have hfz81_2 := blk_frozen BK185.out 2; have hfz81_3 := blk_frozen BK185.out 3; have hfz81_4 := blk_frozen BK185.out 4; have hfz81_5 := blk_frozen BK185.out 5; have hfz81_6 := blk_frozen BK185.out 6; have hfz81_7 := blk_frozen BK185.out 7; have hfz81_8 := blk_frozen BK185.out 8; have hfz81_9 := blk_frozen BK185.out 9; have hfz81_10 := blk_frozen BK185.out 10; have hfz81_11 := blk_frozen BK185.out 11) | (go_at_call 31; (with_reducible refine (msg_Msg_Right.calls (wrap64 (t179)) (wrap64 (t181)) (wrap64 (t183)) t186 t187 x186005_7 x186006_25 x186007_32 x186008_32 x186009_52 x186010_52 x186011_45 false _ A68.out).mono ?_); rintro e w82 ⟨rfl, hb⟩; have n0_ := Aside0.mk (blk_below (g := gb176) (o := .cells #[.int .i64 0, .int .i64 0, .int .i64 0, .int .u64 0, .int .i64 0, .int .u64 0, .int .i64 0, .int .i64 0, .string (⟨#[]⟩ : ByteArray), .string (⟨#[]⟩ : ByteArray), .bool false, .int .i64 0] 47 (0, 0)) (by (with_reducible repeat (first | refine blk_drewN ?_ _ | refine blk_drew ?_ | refine blk_alloc ?_ _)); exact BK176.out) hb); have n1_ := Aside0.mk (blk_below (g := gb185) (o := .cells #[.int .i64 (wrap64 (t179)), .int .i64 (wrap64 (t181)), .int .i64 (wrap64 (t183)), .int .u64 t186, .int .i64 t187, .int .u64 x186005_7, .int .i64 x186006_25, .int .i64 x186007_32, .string x186008_32, .string x186009_52, .bool x186010_52, .int .i64 x186011_45] 47 (0, 0)) (by (with_reducible repeat (first | refine blk_drewN ?_ _ | refine blk_drew ?_ | refine blk_alloc ?_ _)); exact BK185.out) hb); have n2_ := Aside0.mk (IsS64.below (by repeat (first | (with_reducible first | exact HI178.out | apply IsS64.alloc | apply IsS64.drewN | apply IsS64.drew | apply IsS64.set_0 | refine IsS64.far ?_ NB178_176.out _ | refine IsS64.far ?_ NB178_185.out _) | exact HI178.out)) hb); have n3_ := Aside0.mk (below_step (by repeat (first | (with_reducible first | exact HB.out | apply below_alloc | apply pw_below_drewN | apply below_drew1 | refine below_set ?_ (IsS64.ge HI178.out) | refine below_set ?_ GE176.out | refine below_set ?_ GE185.out) | exact HB.out)) hb); clear BK176; clear BK185; clear HI178; clear HB; have BK176 := n0_; have BK185 := n1_; have HI178 := n2_; have HB := n3_; clear n0_ n1_ n2_ n3_; (try clear hb); (try clear hb2); (try clear hk); (try clear hi); have hnb83 := NB176_178.out; have hnc83 := NB178_176.out; have hcz84_0 : w82.cell? ⟨gb176, 0, none⟩ = some (.int .i64 0) := (blk_cell BK176.out 0).trans rfl; have hcz84_1 : w82.cell? ⟨gb176, 1, none⟩ = some (.int .i64 0) := (blk_cell BK176.out 1).trans rfl; have hcz84_2 : w82.cell? ⟨gb176, 2, none⟩ = some (.int .i64 0) := (blk_cell BK176.out 2).trans rfl; have hcz84_3 : w82.cell? ⟨gb176, 3, none⟩ = some (.int .u64 0) := (blk_cell BK176.out 3).trans rfl; have hcz84_4 : w82.cell? ⟨gb176, 4, none⟩ = some (.int .i64 0) := (blk_cell BK176.out 4).trans rfl; have hcz84_5 : w82.cell? ⟨gb176, 5, none⟩ = some (.int .u64 0) := (blk_cell BK176.out 5).trans rfl; have hcz84_6 : w82.cell? ⟨gb176, 6, none⟩ = some (.int .i64 0) := (blk_cell BK176.out 6).trans rfl; have hcz84_7 : w82.cell? ⟨gb176, 7, none⟩ = some (.int .i64 0) := (blk_cell BK176.out 7).trans rfl; have hcz84_8 : w82.cell? ⟨gb176, 8, none⟩ = some (.string (⟨#[]⟩ : ByteArray)) := (blk_cell BK176.out 8).trans rfl; have hcz84_9 : w82.cell? ⟨gb176, 9, none⟩ = some (.string (⟨#[]⟩ : ByteArray)) := (blk_cell BK176.out 9).trans rfl; have hcz84_10 : w82.cell? ⟨gb176, 10, none⟩ = some (.bool false) := (blk_cell BK176.out 10).trans rfl; have hcz84_11 : w82.cell? ⟨gb176, 11, none⟩ = some (.int .i64 0) := (blk_cell BK176.out 11).trans rfl; have hfz84_0 := blk_frozen BK176.out 0; have hfz84_1 := blk_frozen BK176.out 1; have hfz84_2 := blk_frozen BK176.out 2; have hfz84_3 := blk_frozen BK176.out 3; have hfz84_4 := blk_frozen BK176.out 4; have hfz84_5 := blk_frozen BK176.out 5; have hfz84_6 := blk_frozen BK176.out 6; have hfz84_7 := blk_frozen BK176.out 7; have hfz84_8 := blk_frozen BK176.out 8; have hfz84_9 := blk_frozen BK176.out 9; have hfz84_10 := blk_frozen BK176.out 10; have hfz84_11 := blk_frozen BK176.out 11))
                          refine bodyPost_ret (results_ct rfl _ _ gb176 47 #[.int .i64 0, .int .i64 0, .int .i64 0, .int .u64 0, .int .i64 0, .int .u64 0, .int .i64 0, .int .i64 0, .string (⟨#[]⟩ : ByteArray), .string (⟨#[]⟩ : ByteArray), .bool false, .int .i64 0] (0, 0) _ rfl (by (with_reducible repeat (first | refine blk_drewN ?_ _ | refine blk_drew ?_ | refine blk_alloc ?_ _)); refine blk_put (cs := #[.int .i64 0, .int .i64 0, .int .i64 0, .int .u64 0, .int .i64 0, .int .u64 0, .int .i64 0, .int .i64 0, .string (⟨#[]⟩ : ByteArray), .string (⟨#[]⟩ : ByteArray), .bool false, .int .i64 0]) ?_ 11 _ rfl; (with_reducible repeat (first | refine blk_drewN ?_ _ | refine blk_drew ?_ | refine blk_alloc ?_ _)); refine blk_put (cs := #[.int .i64 0, .int .i64 0, .int .i64 0, .int .u64 0, .int .i64 0, .int .u64 0, .int .i64 0, .int .i64 0, .string (⟨#[]⟩ : ByteArray), .string (⟨#[]⟩ : ByteArray), .bool false, .int .i64 0]) ?_ 10 _ rfl; (with_reducible repeat (first | refine blk_drewN ?_ _ | refine blk_drew ?_ | refine blk_alloc ?_ _)); refine blk_put (cs := #[.int .i64 0, .int .i64 0, .int .i64 0, .int .u64 0, .int .i64 0, .int .u64 0, .int .i64 0, .int .i64 0, .string (⟨#[]⟩ : ByteArray), .string (⟨#[]⟩ : ByteArray), .bool false, .int .i64 0]) ?_ 9 _ rfl; (with_reducible repeat (first | refine blk_drewN ?_ _ | refine blk_drew ?_ | refine blk_alloc ?_ _)); refine blk_put (cs := #[.int .i64 0, .int .i64 0, .int .i64 0, .int .u64 0, .int .i64 0, .int .u64 0, .int .i64 0, .int .i64 0, .string (⟨#[]⟩ : ByteArray), .string (⟨#[]⟩ : ByteArray), .bool false, .int .i64 0]) ?_ 8 _ rfl; (with_reducible repeat (first | refine blk_drewN ?_ _ | refine blk_drew ?_ | refine blk_alloc ?_ _)); refine blk_put (cs := #[.int .i64 0, .int .i64 0, .int .i64 0, .int .u64 0, .int .i64 0, .int .u64 0, .int .i64 0, .int .i64 0, .string (⟨#[]⟩ : ByteArray), .string (⟨#[]⟩ : ByteArray), .bool false, .int .i64 0]) ?_ 7 _ rfl; (with_reducible repeat (first | refine blk_drewN ?_ _ | refine blk_drew ?_ | refine blk_alloc ?_ _)); refine blk_put (cs := #[.int .i64 0, .int .i64 0, .int .i64 0, .int .u64 0, .int .i64 0, .int .u64 0, .int .i64 0, .int .i64 0, .string (⟨#[]⟩ : ByteArray), .string (⟨#[]⟩ : ByteArray), .bool false, .int .i64 0]) ?_ 6 _ rfl; (with_reducible repeat (first | refine blk_drewN ?_ _ | refine blk_drew ?_ | refine blk_alloc ?_ _)); refine blk_put (cs := #[.int .i64 0, .int .i64 0, .int .i64 0, .int .u64 0, .int .i64 0, .int .u64 0, .int .i64 0, .int .i64 0, .string (⟨#[]⟩ : ByteArray), .string (⟨#[]⟩ : ByteArray), .bool false, .int .i64 0]) ?_ 5 _ rfl; (with_reducible repeat (first | refine blk_drewN ?_ _ | refine blk_drew ?_ | refine blk_alloc ?_ _)); refine blk_put (cs := #[.int .i64 0, .int .i64 0, .int .i64 0, .int .u64 0, .int .i64 0, .int .u64 0, .int .i64 0, .int .i64 0, .string (⟨#[]⟩ : ByteArray), .string (⟨#[]⟩ : ByteArray), .bool false, .int .i64 0]) ?_ 4 _ rfl; (with_reducible repeat (first | refine blk_drewN ?_ _ | refine blk_drew ?_ | refine blk_alloc ?_ _)); refine blk_put (cs := #[.int .i64 0, .int .i64 0, .int .i64 0, .int .u64 0, .int .i64 0, .int .u64 0, .int .i64 0, .int .i64 0, .string (⟨#[]⟩ : ByteArray), .string (⟨#[]⟩ : ByteArray), .bool false, .int .i64 0]) ?_ 3 _ rfl; (with_reducible repeat (first | refine blk_drewN ?_ _ | refine blk_drew ?_ | refine blk_alloc ?_ _)); refine blk_put (cs := #[.int .i64 0, .int .i64 0, .int .i64 0, .int .u64 0, .int .i64 0, .int .u64 0, .int .i64 0, .int .i64 0, .string (⟨#[]⟩ : ByteArray), .string (⟨#[]⟩ : ByteArray), .bool false, .int .i64 0]) ?_ 2 _ rfl; (with_reducible repeat (first | refine blk_drewN ?_ _ | refine blk_drew ?_ | refine blk_alloc ?_ _)); refine blk_put (cs := #[.int .i64 0, .int .i64 0, .int .i64 0, .int .u64 0, .int .i64 0, .int .u64 0, .int .i64 0, .int .i64 0, .string (⟨#[]⟩ : ByteArray), .string (⟨#[]⟩ : ByteArray), .bool false, .int .i64 0]) ?_ 1 _ rfl; (with_reducible repeat (first | refine blk_drewN ?_ _ | refine blk_drew ?_ | refine blk_alloc ?_ _)); refine blk_put (cs := #[.int .i64 0, .int .i64 0, .int .i64 0, .int .u64 0, .int .i64 0, .int .u64 0, .int .i64 0, .int .i64 0, .string (⟨#[]⟩ : ByteArray), .string (⟨#[]⟩ : ByteArray), .bool false, .int .i64 0]) ?_ 0 _ rfl; (with_reducible repeat (first | refine blk_drewN ?_ _ | refine blk_drew ?_ | refine blk_alloc ?_ _)); exact BK176.out) Try.underlying47 rfl (by kernel_rfl)) rfl ?_
                          exact ⟨by first | rfl | (simp [errW_none, errW_some] <;> rfl) | (simp [*, errW_none, errW_some] <;> rfl), by repeat (first | (with_reducible first | exact HB.out | apply below_alloc | apply pw_below_drewN | apply below_drew1 | refine below_set ?_ (IsS64.ge HI178.out) | refine below_set ?_ GE176.out | refine below_set ?_ GE185.out) | exact HB.out)⟩
                      · rw [if_neg c67] at H
                        have c67b0 : (t209 == 0) = false := beq_eq_false_iff_ne.mpr c67
                        have c67b1 : (t209 != 0) = true := bne_iff_ne.mpr c67
                        simp only [Option.some.injEq, Prod.mk.injEq] at H
                        obtain ⟨rfl, rfl, rfl, rfl, rfl, rfl, rfl, rfl, rfl, rfl, rfl, rfl, rfl⟩ := H
                        go_wp2_with (first | ((with_reducible refine gate_callee (f := 29) rfl ?_); refine goesL_ (some 69) rfl rfl Try.func29 (by kernel_rfl) rfl #[.pointer (some ⟨g178, 0, none⟩)] rfl (by (try simp only [List.map_toArray, List.map_cons, List.map_nil]); first | done | rfl | (simp only [List.length_drop, List.length_take]; rfl)) ?_; (with_reducible refine (num_Reader_End.calls g178 x179000_52 t209 t210 w _ ?side1 ?side2 A66.out).mono ?_); (case side1 => repeat (first | (with_reducible first | exact HI178.out | apply IsS64.alloc | apply IsS64.drewN | apply IsS64.drew | apply IsS64.set_0 | refine IsS64.far ?_ NB178_176.out _ | refine IsS64.far ?_ NB178_185.out _) | exact HI178.out)); (case side2 => repeat (first | (with_reducible first | exact HB.out | apply below_alloc | apply pw_below_drewN | apply below_drew1 | refine below_set ?_ (IsS64.ge HI178.out) | refine below_set ?_ GE176.out | refine below_set ?_ GE185.out) | exact HB.out)); rintro e w85 ⟨rfl, hi, hb, hk⟩; refine ⟨_, rfl, ?_⟩; have n0_ := Aside0.mk (KeepBut.blk hk (g' := gb176) (o := .cells #[.int .i64 0, .int .i64 0, .int .i64 0, .int .u64 0, .int .i64 0, .int .u64 0, .int .i64 0, .int .i64 0, .string (⟨#[]⟩ : ByteArray), .string (⟨#[]⟩ : ByteArray), .bool false, .int .i64 0] 47 (0, 0)) (by (with_reducible repeat (first | refine blk_drewN ?_ _ | refine blk_drew ?_ | refine blk_alloc ?_ _)); exact BK176.out) NB176_178.out (by simp)); have n1_ := Aside0.mk (KeepBut.blk hk (g' := gb185) (o := .cells #[.int .i64 (wrap64 (t179)), .int .i64 (wrap64 (t181)), .int .i64 (wrap64 (t183)), .int .u64 t186, .int .i64 t187, .int .u64 x186005_7, .int .i64 x186006_25, .int .i64 x186007_32, .string x186008_32, .string x186009_52, .bool x186010_52, .int .i64 x186011_45] 47 (0, 0)) (by (with_reducible repeat (first | refine blk_drewN ?_ _ | refine blk_drew ?_ | refine blk_alloc ?_ _)); exact BK185.out) NB185_178.out (by simp)); have n2_ := Aside0.mk (hb); have n3_ := Aside0.mk (hi); clear BK176; clear BK185; clear HB; clear HI178; have BK176 := n0_; have BK185 := n1_; have HB := n2_; have HI178 := n3_; clear n0_ n1_ n2_ n3_; (try clear hb); (try clear hb2); (try clear hk); (try clear hi); have hnb86 := NB176_185.out; have hnc86 := NB185_176.out; have hnb87 := NB176_178.out; have hnc87 := NB178_176.out; have hcz88_0 : w85.cell? ⟨gb176, 0, none⟩ = some (.int .i64 0) := (blk_cell BK176.out 0).trans rfl; have hcz88_1 : w85.cell? ⟨gb176, 1, none⟩ = some (.int .i64 0) := (blk_cell BK176.out 1).trans rfl; have hcz88_2 : w85.cell? ⟨gb176, 2, none⟩ = some (.int .i64 0) := (blk_cell BK176.out 2).trans rfl; have hcz88_3 : w85.cell? ⟨gb176, 3, none⟩ = some (.int .u64 0) := (blk_cell BK176.out 3).trans rfl; have hcz88_4 : w85.cell? ⟨gb176, 4, none⟩ = some (.int .i64 0) := (blk_cell BK176.out 4).trans rfl; have hcz88_5 : w85.cell? ⟨gb176, 5, none⟩ = some (.int .u64 0) := (blk_cell BK176.out 5).trans rfl; have hcz88_6 : w85.cell? ⟨gb176, 6, none⟩ = some (.int .i64 0) := (blk_cell BK176.out 6).trans rfl; have hcz88_7 : w85.cell? ⟨gb176, 7, none⟩ = some (.int .i64 0) := (blk_cell BK176.out 7).trans rfl; have hcz88_8 : w85.cell? ⟨gb176, 8, none⟩ = some (.string (⟨#[]⟩ : ByteArray)) := (blk_cell BK176.out 8).trans rfl; have hcz88_9 : w85.cell? ⟨gb176, 9, none⟩ = some (.string (⟨#[]⟩ : ByteArray)) := (blk_cell BK176.out 9).trans rfl; have hcz88_10 : w85.cell? ⟨gb176, 10, none⟩ = some (.bool false) := (blk_cell BK176.out 10).trans rfl; have hcz88_11 : w85.cell? ⟨gb176, 11, none⟩ = some (.int .i64 0) := (blk_cell BK176.out 11).trans rfl; have hfz88_0 := blk_frozen BK176.out 0; have hfz88_1 := blk_frozen BK176.out 1; have hfz88_2 := blk_frozen BK176.out 2; have hfz88_3 := blk_frozen BK176.out 3; have hfz88_4 := blk_frozen BK176.out 4; have hfz88_5 := blk_frozen BK176.out 5; have hfz88_6 := blk_frozen BK176.out 6; have hfz88_7 := blk_frozen BK176.out 7; have hfz88_8 := blk_frozen BK176.out 8; have hfz88_9 := blk_frozen BK176.out 9; have hfz88_10 := blk_frozen BK176.out 10; have hfz88_11 := blk_frozen BK176.out 11))
                        refine bodyPost_ret (results_ct rfl _ _ gb176 47 #[.int .i64 0, .int .i64 0, .int .i64 0, .int .u64 0, .int .i64 0, .int .u64 0, .int .i64 0, .int .i64 0, .string (⟨#[]⟩ : ByteArray), .string (⟨#[]⟩ : ByteArray), .bool false, .int .i64 0] (0, 0) _ rfl (by (with_reducible repeat (first | refine blk_drewN ?_ _ | refine blk_drew ?_ | refine blk_alloc ?_ _)); refine blk_put (cs := #[.int .i64 0, .int .i64 0, .int .i64 0, .int .u64 0, .int .i64 0, .int .u64 0, .int .i64 0, .int .i64 0, .string (⟨#[]⟩ : ByteArray), .string (⟨#[]⟩ : ByteArray), .bool false, .int .i64 0]) ?_ 11 _ rfl; (with_reducible repeat (first | refine blk_drewN ?_ _ | refine blk_drew ?_ | refine blk_alloc ?_ _)); refine blk_put (cs := #[.int .i64 0, .int .i64 0, .int .i64 0, .int .u64 0, .int .i64 0, .int .u64 0, .int .i64 0, .int .i64 0, .string (⟨#[]⟩ : ByteArray), .string (⟨#[]⟩ : ByteArray), .bool false, .int .i64 0]) ?_ 10 _ rfl; (with_reducible repeat (first | refine blk_drewN ?_ _ | refine blk_drew ?_ | refine blk_alloc ?_ _)); refine blk_put (cs := #[.int .i64 0, .int .i64 0, .int .i64 0, .int .u64 0, .int .i64 0, .int .u64 0, .int .i64 0, .int .i64 0, .string (⟨#[]⟩ : ByteArray), .string (⟨#[]⟩ : ByteArray), .bool false, .int .i64 0]) ?_ 9 _ rfl; (with_reducible repeat (first | refine blk_drewN ?_ _ | refine blk_drew ?_ | refine blk_alloc ?_ _)); refine blk_put (cs := #[.int .i64 0, .int .i64 0, .int .i64 0, .int .u64 0, .int .i64 0, .int .u64 0, .int .i64 0, .int .i64 0, .string (⟨#[]⟩ : ByteArray), .string (⟨#[]⟩ : ByteArray), .bool false, .int .i64 0]) ?_ 8 _ rfl; (with_reducible repeat (first | refine blk_drewN ?_ _ | refine blk_drew ?_ | refine blk_alloc ?_ _)); refine blk_put (cs := #[.int .i64 0, .int .i64 0, .int .i64 0, .int .u64 0, .int .i64 0, .int .u64 0, .int .i64 0, .int .i64 0, .string (⟨#[]⟩ : ByteArray), .string (⟨#[]⟩ : ByteArray), .bool false, .int .i64 0]) ?_ 7 _ rfl; (with_reducible repeat (first | refine blk_drewN ?_ _ | refine blk_drew ?_ | refine blk_alloc ?_ _)); refine blk_put (cs := #[.int .i64 0, .int .i64 0, .int .i64 0, .int .u64 0, .int .i64 0, .int .u64 0, .int .i64 0, .int .i64 0, .string (⟨#[]⟩ : ByteArray), .string (⟨#[]⟩ : ByteArray), .bool false, .int .i64 0]) ?_ 6 _ rfl; (with_reducible repeat (first | refine blk_drewN ?_ _ | refine blk_drew ?_ | refine blk_alloc ?_ _)); refine blk_put (cs := #[.int .i64 0, .int .i64 0, .int .i64 0, .int .u64 0, .int .i64 0, .int .u64 0, .int .i64 0, .int .i64 0, .string (⟨#[]⟩ : ByteArray), .string (⟨#[]⟩ : ByteArray), .bool false, .int .i64 0]) ?_ 5 _ rfl; (with_reducible repeat (first | refine blk_drewN ?_ _ | refine blk_drew ?_ | refine blk_alloc ?_ _)); refine blk_put (cs := #[.int .i64 0, .int .i64 0, .int .i64 0, .int .u64 0, .int .i64 0, .int .u64 0, .int .i64 0, .int .i64 0, .string (⟨#[]⟩ : ByteArray), .string (⟨#[]⟩ : ByteArray), .bool false, .int .i64 0]) ?_ 4 _ rfl; (with_reducible repeat (first | refine blk_drewN ?_ _ | refine blk_drew ?_ | refine blk_alloc ?_ _)); refine blk_put (cs := #[.int .i64 0, .int .i64 0, .int .i64 0, .int .u64 0, .int .i64 0, .int .u64 0, .int .i64 0, .int .i64 0, .string (⟨#[]⟩ : ByteArray), .string (⟨#[]⟩ : ByteArray), .bool false, .int .i64 0]) ?_ 3 _ rfl; (with_reducible repeat (first | refine blk_drewN ?_ _ | refine blk_drew ?_ | refine blk_alloc ?_ _)); refine blk_put (cs := #[.int .i64 0, .int .i64 0, .int .i64 0, .int .u64 0, .int .i64 0, .int .u64 0, .int .i64 0, .int .i64 0, .string (⟨#[]⟩ : ByteArray), .string (⟨#[]⟩ : ByteArray), .bool false, .int .i64 0]) ?_ 2 _ rfl; (with_reducible repeat (first | refine blk_drewN ?_ _ | refine blk_drew ?_ | refine blk_alloc ?_ _)); refine blk_put (cs := #[.int .i64 0, .int .i64 0, .int .i64 0, .int .u64 0, .int .i64 0, .int .u64 0, .int .i64 0, .int .i64 0, .string (⟨#[]⟩ : ByteArray), .string (⟨#[]⟩ : ByteArray), .bool false, .int .i64 0]) ?_ 1 _ rfl; (with_reducible repeat (first | refine blk_drewN ?_ _ | refine blk_drew ?_ | refine blk_alloc ?_ _)); refine blk_put (cs := #[.int .i64 0, .int .i64 0, .int .i64 0, .int .u64 0, .int .i64 0, .int .u64 0, .int .i64 0, .int .i64 0, .string (⟨#[]⟩ : ByteArray), .string (⟨#[]⟩ : ByteArray), .bool false, .int .i64 0]) ?_ 0 _ rfl; (with_reducible repeat (first | refine blk_drewN ?_ _ | refine blk_drew ?_ | refine blk_alloc ?_ _)); exact BK176.out) Try.underlying47 rfl (by kernel_rfl)) rfl ?_
                        exact ⟨by first | rfl | (simp [errW_none, errW_some] <;> rfl) | (simp [*, errW_none, errW_some] <;> rfl), by repeat (first | (with_reducible first | exact HB.out | apply below_alloc | apply pw_below_drewN | apply below_drew1 | refine below_set ?_ (IsS64.ge HI178.out) | refine below_set ?_ GE176.out | refine below_set ?_ GE185.out) | exact HB.out)⟩

end Go.Proofs.Ytolcmjoapnldiaa.Q
