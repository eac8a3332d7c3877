/- The row of the law MsgCodes: out of my walk of it, for whatever arguments can be read; no conditions beyond the given statement's. -/
import Derived.Test.YtolcmjoapnldiaaRows
import Derived.Test.YtolcmjoapnldiaaMsgCodes
import Derived.Test.YtolcmjoapnldiaaOpen
import Derived.WalkKit
import Derived.ProofKit
import Derived.OpenShut
import Derived.ShutString
import Derived.ChangeOld
import Derived.Below
import Derived.SizedLaws
namespace Go.Proofs.Ytolcmjoapnldiaa.msgCodes
open Go.ChangeShapes Go.WideShapes Go.ChangeAt Go.RowKit Go.Proofs.Ytolcmjoapnldiaa.Open Go.Proofs.YtolcmjoapnldiaaW.PrintWords
open Go.ChangeMaps (open_string shut_string)
set_option linter.unusedVariables false
set_option linter.unusedSimpArgs false
theorem own : ownKnob Try.prog.godebug = none := by kernel_rfl
theorem laidOut : laidOutB Try.prog = true := by kernel_rfl
theorem cells3 : Try.prog.cellsOf 3 = 1 := by kernel_rfl
theorem cells4 : Try.prog.cellsOf 4 = 1 := by kernel_rfl
theorem cells9 : Try.prog.cellsOf 9 = 1 := by kernel_rfl
theorem cells22 : Try.prog.cellsOf 22 = 1 := by kernel_rfl
theorem cells28 : Try.prog.cellsOf 28 = 2 := by kernel_rfl
theorem cells40 : Try.prog.cellsOf 40 = 1 := by kernel_rfl
theorem cells47 : Try.prog.cellsOf 47 = 12 := by kernel_rfl
theorem arr12 : ∀ (cs : Array Value), cs.size = 12 → ∃ c0 c1 c2 c3 c4 c5 c6 c7 c8 c9 c10 c11, cs = #[c0, c1, c2, c3, c4, c5, c6, c7, c8, c9, c10, c11]
  | ⟨[c0, c1, c2, c3, c4, c5, c6, c7, c8, c9, c10, c11]⟩, _ => ⟨_, _, _, _, _, _, _, _, _, _, _, _, rfl⟩
set_option maxRecDepth 100000 in
theorem lifted (os : Os) (started : os.Started) (H : Type) (enc : TypeId × Value → H) :
    ReturnsInHanded {} Try.checked os 12 .any (Rows.msgCodesSpec.pre6 enc Try.prog Try.f12 Rows.msgCodesRow.domain false) (Rows.msgCodesSpec.post enc Try.prog Try.f12 false true false false) := by
  refine returnsInHanded_of_change_sized (C := Try.checked) own started (by kernel_rfl) Try.func12
    (ChangeSpec.witness6 (enc := enc) (C := Try.checked) false ⟨#[], #[.agg #[.int .i64 0, .int .i64 0, .int .i64 0, .int .u64 0, .int .i64 0, .int .u64 0, .int .i64 0, .int .i64 0, .string ByteArray.empty, .string ByteArray.empty, .bool false, .int .i64 0]], []⟩ 8 (by kernel_rfl) (by kernel_rfl) (by kernel_rfl) (by kernel_rfl)) ?_
  intro W base args ds gs before hval0 hW hcnd hsz0 _
  have hsz : (DataW.weightsEach Try.prog (Try.f12.params.toList ++ Rows.msgCodesSpec.plain.varTypes Try.prog) (ds ++ gs)).all (· ≤ reachBytes) = true := hsz0
  have hval : ∀ (j : Nat) t v, Try.f12.params[j]? = some t → args[j]? = some v → Value.okWide Try.prog W .any base t v := hval0
  have hW' := hW
  obtain ⟨p, q, hA0, hV, rfl, hfz, hnd⟩ := hW
  have hA : DataW.TrodAll enc Try.prog W 0 (fun _ => true) true Try.f12.params.toList args.toList ds p := hA0
  rw [Try.params12] at hA hval hsz
  obtain ⟨v0, vs0, d0, ds0, p0, q0, hargs, rfl, rfl, h0, r0⟩ := trodAll_cons hA
  obtain ⟨rfl, rfl, rfl⟩ := trodAll_nil r0
  obtain rfl : args = #[v0] := by cases args; simp_all
  obtain ⟨rfl, rfl⟩ := trodVars_none hV
  have k0 := h0
  have lt0 : ∀ x ∈ p0, x.block < W.heap.size := by obtain ⟨m, hm⟩ := k0; exact DataW.trod_lt m _ _ _ hm
  obtain ⟨cs0, rfl, hs0⟩ := okWide_struct Try.underlying47 (hval 0 47 v0 rfl rfl)
  rw [cells47] at hs0
  obtain ⟨c0_0, c0_1, c0_2, c0_3, c0_4, c0_5, c0_6, c0_7, c0_8, c0_9, c0_10, c0_11, rfl⟩ := arr12 cs0 hs0
  obtain ⟨fu0, hf0⟩ := h0
  have hg0 : DataW.trod enc Try.prog W 0 (fun _ => true) true fu0 47 [c0_0, c0_1, c0_2, c0_3, c0_4, c0_5, c0_6, c0_7, c0_8, c0_9, c0_10, c0_11] = some (d0, p0) := by simpa [Value.cells] using hf0
  obtain ⟨_, n0, hF0⟩ := trod_fields Try.underlying47 hg0
  obtain ⟨y1, t1⟩ := hF0 0 _ rfl
  have t1' : DataW.trod enc Try.prog W 0 (fun _ => true) true n0 3 [c0_0] = some y1 := by simpa [cells3, cells47] using t1
  obtain ⟨a2, ka2, wa2⟩ := (opn_int Try.underlying3) _ _ _ _ t1'
  have eb2 : [c0_0] = [.int .i64 a2] := ka2
  injection eb2 with eb2 _
  subst eb2
  obtain ⟨y3, t3⟩ := hF0 1 _ rfl
  have t3' : DataW.trod enc Try.prog W 0 (fun _ => true) true n0 3 [c0_1] = some y3 := by simpa [cells3, cells47] using t3
  obtain ⟨a4, ka4, wa4⟩ := (opn_int Try.underlying3) _ _ _ _ t3'
  have eb4 : [c0_1] = [.int .i64 a4] := ka4
  injection eb4 with eb4 _
  subst eb4
  obtain ⟨y5, t5⟩ := hF0 2 _ rfl
  have t5' : DataW.trod enc Try.prog W 0 (fun _ => true) true n0 3 [c0_2] = some y5 := by simpa [cells3, cells47] using t5
  obtain ⟨a6, ka6, wa6⟩ := (opn_int Try.underlying3) _ _ _ _ t5'
  have eb6 : [c0_2] = [.int .i64 a6] := ka6
  injection eb6 with eb6 _
  subst eb6
  obtain ⟨y7, t7⟩ := hF0 3 _ rfl
  have t7' : DataW.trod enc Try.prog W 0 (fun _ => true) true n0 28 [c0_3, c0_4] = some y7 := by simpa [cells3, cells28, cells47] using t7
  obtain ⟨_, n8, hF8⟩ := trod_fields Try.underlying28 t7'
  obtain ⟨y9, t9⟩ := hF8 0 _ rfl
  have t9' : DataW.trod enc Try.prog W 0 (fun _ => true) true n8 22 [c0_3] = some y9 := by simpa [cells3, cells22, cells28, cells47] using t9
  obtain ⟨a10, ka10, wa10⟩ := (opn_int Try.underlying22) _ _ _ _ t9'
  have eb10 : [c0_3] = [.int .u64 a10] := ka10
  injection eb10 with eb10 _
  subst eb10
  obtain ⟨y11, t11⟩ := hF8 1 _ rfl
  have t11' : DataW.trod enc Try.prog W 0 (fun _ => true) true n8 3 [c0_4] = some y11 := by simpa [cells3, cells22, cells28, cells47] using t11
  obtain ⟨a12, ka12, wa12⟩ := (opn_int Try.underlying3) _ _ _ _ t11'
  have eb12 : [c0_4] = [.int .i64 a12] := ka12
  injection eb12 with eb12 _
  subst eb12
  obtain ⟨y13, t13⟩ := hF0 4 _ rfl
  have t13' : DataW.trod enc Try.prog W 0 (fun _ => true) true n0 22 [c0_5] = some y13 := by simpa [cells3, cells22, cells28, cells47] using t13
  obtain ⟨a14, ka14, wa14⟩ := (opn_int Try.underlying22) _ _ _ _ t13'
  have eb14 : [c0_5] = [.int .u64 a14] := ka14
  injection eb14 with eb14 _
  subst eb14
  obtain ⟨y15, t15⟩ := hF0 5 _ rfl
  have t15' : DataW.trod enc Try.prog W 0 (fun _ => true) true n0 3 [c0_6] = some y15 := by simpa [cells3, cells22, cells28, cells47] using t15
  obtain ⟨a16, ka16, wa16⟩ := (opn_int Try.underlying3) _ _ _ _ t15'
  have eb16 : [c0_6] = [.int .i64 a16] := ka16
  injection eb16 with eb16 _
  subst eb16
  obtain ⟨y17, t17⟩ := hF0 6 _ rfl
  have t17' : DataW.trod enc Try.prog W 0 (fun _ => true) true n0 3 [c0_7] = some y17 := by simpa [cells3, cells22, cells28, cells47] using t17
  obtain ⟨a18, ka18, wa18⟩ := (opn_int Try.underlying3) _ _ _ _ t17'
  have eb18 : [c0_7] = [.int .i64 a18] := ka18
  injection eb18 with eb18 _
  subst eb18
  obtain ⟨y19, t19⟩ := hF0 7 _ rfl
  have t19' : DataW.trod enc Try.prog W 0 (fun _ => true) true n0 9 [c0_8] = some y19 := by simpa [cells3, cells9, cells22, cells28, cells47] using t19
  obtain ⟨a20, ka20, wa20⟩ := (opn_string Try.underlying9) _ _ _ _ t19'
  have eb20 : [c0_8] = [.string a20] := ka20
  injection eb20 with eb20 _
  subst eb20
  obtain ⟨y21, t21⟩ := hF0 8 _ rfl
  have t21' : DataW.trod enc Try.prog W 0 (fun _ => true) true n0 9 [c0_9] = some y21 := by simpa [cells3, cells9, cells22, cells28, cells47] using t21
  obtain ⟨a22, ka22, wa22⟩ := (opn_string Try.underlying9) _ _ _ _ t21'
  have eb22 : [c0_9] = [.string a22] := ka22
  injection eb22 with eb22 _
  subst eb22
  obtain ⟨y23, t23⟩ := hF0 9 _ rfl
  have t23' : DataW.trod enc Try.prog W 0 (fun _ => true) true n0 4 [c0_10] = some y23 := by simpa [cells3, cells4, cells9, cells22, cells28, cells47] using t23
  obtain ⟨a24, ka24, wa24⟩ := (opn_bool Try.underlying4) _ _ _ _ t23'
  have eb24 : [c0_10] = [.bool a24] := ka24
  injection eb24 with eb24 _
  subst eb24
  obtain ⟨y25, t25⟩ := hF0 10 _ rfl
  have t25' : DataW.trod enc Try.prog W 0 (fun _ => true) true n0 40 [c0_11] = some y25 := by simpa [cells3, cells4, cells9, cells22, cells28, cells40, cells47] using t25
  obtain ⟨a26, ka26, wa26⟩ := (opn_int Try.underlying40) _ _ _ _ t25'
  have eb26 : [c0_11] = [.int .i64 a26] := ka26
  injection eb26 with eb26 _
  subst eb26
  clear hA0 hval0 hsz0 hsz
  refine (MsgCodes.law_ok a2 a4 a6 a10 a12 a14 a16 a18 a20 a22 a24 a26 W wa2 wa4 wa6 wa10 wa12 wa14 wa16 wa18 wa20 wa22 wa26).mono fun e W' ⟨he, bel⟩ => ?_
  subst he
  exact ⟨_, rfl, _, _, _, [], _, [], hW', trodAll_mk1 (shut_bool Try.underlying4 _), (trodAll_cons_mk (Below.trod laidOut (by kernel_rfl) (of_decide_eq_true (by kernel_rfl)) k0 bel lt0) trodAll_mk0), rfl, bel.frame _, fun h => by cases h⟩
theorem over : Rows.msgCodesRow.holds Try.pinned (OpenSpec.ofChange Rows.msgCodesSpec) :=
  OpenClaim.holds_of_wide 12 Try.f12 rfl rfl rfl rfl rfl rfl rfl ⟨rfl, rfl, rfl, rfl, rfl⟩ rfl rfl rfl rfl rfl (by kernel_rfl) Try.func12 (by kernel_rfl)
    (of_decide_eq_true (by kernel_rfl)) (by unfold Func.isWrapper; first | (rw [if_pos (by decide +kernel)]; kernel_rfl) | (rw [if_neg (by decide +kernel)]; exact ⟨rfl, rfl⟩))
    (fun os started H enc _ => lifted os started H enc)
theorem proved : Rows.MsgCodesSaid := over
end Go.Proofs.Ytolcmjoapnldiaa.msgCodes
namespace Go.Proofs.Ytolcmjoapnldiaa
/-- The row, under a short name, for the claim. -/
theorem msgCodes_holds : Rows.MsgCodesSaid := msgCodes.proved
end Go.Proofs.Ytolcmjoapnldiaa
