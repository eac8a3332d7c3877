/- The row of the law NumApart: out of my walk of it, for whatever arguments can be read; no conditions beyond the given statement's. -/
import Derived.Test.YtolcmjoapnldiaaRows
import Derived.Test.YtolcmjoapnldiaaNumApart
import Derived.Test.YtolcmjoapnldiaaOpen
import Derived.WalkKit
import Derived.ProofKit
import Derived.OpenShut
import Derived.ShutString
import Derived.ChangeOld
import Derived.Below
import Derived.SizedLaws
namespace Go.Proofs.Ytolcmjoapnldiaa.numApart
open Go.ChangeShapes Go.WideShapes Go.ChangeAt Go.RowKit Go.Proofs.Ytolcmjoapnldiaa.Open Go.Proofs.YtolcmjoapnldiaaW.PrintWords
open Go.ChangeMaps (open_string shut_string)
set_option linter.unusedVariables false
set_option linter.unusedSimpArgs false
theorem own : ownKnob Try.prog.godebug = none := by kernel_rfl
theorem laidOut : laidOutB Try.prog = true := by kernel_rfl
theorem cells3 : Try.prog.cellsOf 3 = 1 := by kernel_rfl
theorem cells22 : Try.prog.cellsOf 22 = 1 := by kernel_rfl
theorem cells28 : Try.prog.cellsOf 28 = 2 := by kernel_rfl
theorem arr2 : ∀ (cs : Array Value), cs.size = 2 → ∃ c0 c1, cs = #[c0, c1]
  | ⟨[c0, c1]⟩, _ => ⟨_, _, rfl⟩
set_option maxRecDepth 100000 in
theorem lifted (os : Os) (started : os.Started) (H : Type) (enc : TypeId × Value → H) :
    ReturnsInHanded {} Try.checked os 4 .any (Rows.numApartSpec.pre6 enc Try.prog Try.f4 Rows.numApartRow.domain false) (Rows.numApartSpec.post enc Try.prog Try.f4 false true false false) := by
  refine returnsInHanded_of_change_sized (C := Try.checked) own started (by kernel_rfl) Try.func4
    (ChangeSpec.witness6 (enc := enc) (C := Try.checked) false ⟨#[], #[.int .u64 0, .int .u64 0, .string ByteArray.empty, .string ByteArray.empty, .agg #[.int .u64 0, .int .i64 0], .agg #[.int .u64 0, .int .i64 0]], []⟩ 8 (by kernel_rfl) (by kernel_rfl) (by kernel_rfl) (by kernel_rfl)) ?_
  intro W base args ds gs before hval0 hW hcnd hsz0 _
  have hsz : (DataW.weightsEach Try.prog (Try.f4.params.toList ++ Rows.numApartSpec.plain.varTypes Try.prog) (ds ++ gs)).all (· ≤ reachBytes) = true := hsz0
  have hval : ∀ (j : Nat) t v, Try.f4.params[j]? = some t → args[j]? = some v → Value.okWide Try.prog W .any base t v := hval0
  have hW' := hW
  obtain ⟨p, q, hA0, hV, rfl, hfz, hnd⟩ := hW
  have hA : DataW.TrodAll enc Try.prog W 0 (fun _ => true) true Try.f4.params.toList args.toList ds p := hA0
  rw [Try.params4] at hA hval hsz
  obtain ⟨v0, vs0, d0, ds0, p0, q0, hargs, rfl, rfl, h0, r0⟩ := trodAll_cons hA
  obtain ⟨v1, vs1, d1, ds1, p1, q1, rfl, rfl, rfl, h1, r1⟩ := trodAll_cons r0
  obtain ⟨v2, vs2, d2, ds2, p2, q2, rfl, rfl, rfl, h2, r2⟩ := trodAll_cons r1
  obtain ⟨v3, vs3, d3, ds3, p3, q3, rfl, rfl, rfl, h3, r3⟩ := trodAll_cons r2
  obtain ⟨v4, vs4, d4, ds4, p4, q4, rfl, rfl, rfl, h4, r4⟩ := trodAll_cons r3
  obtain ⟨v5, vs5, d5, ds5, p5, q5, rfl, rfl, rfl, h5, r5⟩ := trodAll_cons r4
  obtain ⟨rfl, rfl, rfl⟩ := trodAll_nil r5
  obtain rfl : args = #[v0, v1, v2, v3, v4, v5] := by cases args; simp_all
  obtain ⟨rfl, rfl⟩ := trodVars_none hV
  have k0 := h0
  have lt0 : ∀ x ∈ p0, x.block < W.heap.size := by obtain ⟨m, hm⟩ := k0; exact DataW.trod_lt m _ _ _ hm
  obtain ⟨a0, rfl, _, _, wa0⟩ := open_int Try.underlying22 (hval 0 22 v0 rfl rfl) h0
  have k1 := h1
  have lt1 : ∀ x ∈ p1, x.block < W.heap.size := by obtain ⟨m, hm⟩ := k1; exact DataW.trod_lt m _ _ _ hm
  obtain ⟨a1, rfl, _, _, wa1⟩ := open_int Try.underlying22 (hval 1 22 v1 rfl rfl) h1
  have k2 := h2
  have lt2 : ∀ x ∈ p2, x.block < W.heap.size := by obtain ⟨m, hm⟩ := k2; exact DataW.trod_lt m _ _ _ hm
  obtain ⟨a2, rfl, hd2, _, y2⟩ := open_string Try.underlying9 (hval 2 9 v2 rfl rfl) h2
  subst hd2
  have wa2 : a2.size ≤ 140737488351232 := by
    have z := sized_string hsz (j := 2) (t := 9) rfl rfl
    rw [Array.length_toList] at z
    exact z
  have k3 := h3
  have lt3 : ∀ x ∈ p3, x.block < W.heap.size := by obtain ⟨m, hm⟩ := k3; exact DataW.trod_lt m _ _ _ hm
  obtain ⟨a3, rfl, hd3, _, y3⟩ := open_string Try.underlying9 (hval 3 9 v3 rfl rfl) h3
  subst hd3
  have wa3 : a3.size ≤ 140737488351232 := by
    have z := sized_string hsz (j := 3) (t := 9) rfl rfl
    rw [Array.length_toList] at z
    exact z
  have k4 := h4
  have lt4 : ∀ x ∈ p4, x.block < W.heap.size := by obtain ⟨m, hm⟩ := k4; exact DataW.trod_lt m _ _ _ hm
  obtain ⟨cs4, rfl, hs4⟩ := okWide_struct Try.underlying28 (hval 4 28 v4 rfl rfl)
  rw [cells28] at hs4
  obtain ⟨c4_0, c4_1, rfl⟩ := arr2 cs4 hs4
  obtain ⟨fu4, hf4⟩ := h4
  have hg4 : DataW.trod enc Try.prog W 0 (fun _ => true) true fu4 28 [c4_0, c4_1] = some (d4, p4) := by simpa [Value.cells] using hf4
  obtain ⟨_, n4, hF4⟩ := trod_fields Try.underlying28 hg4
  obtain ⟨y5, t5⟩ := hF4 0 _ rfl
  have t5' : DataW.trod enc Try.prog W 0 (fun _ => true) true n4 22 [c4_0] = some y5 := by simpa [cells22, cells28] using t5
  obtain ⟨a6, ka6, wa6⟩ := (opn_int Try.underlying22) _ _ _ _ t5'
  have eb6 : [c4_0] = [.int .u64 a6] := ka6
  injection eb6 with eb6 _
  subst eb6
  obtain ⟨y7, t7⟩ := hF4 1 _ rfl
  have t7' : DataW.trod enc Try.prog W 0 (fun _ => true) true n4 3 [c4_1] = some y7 := by simpa [cells3, cells22, cells28] using t7
  obtain ⟨a8, ka8, wa8⟩ := (opn_int Try.underlying3) _ _ _ _ t7'
  have eb8 : [c4_1] = [.int .i64 a8] := ka8
  injection eb8 with eb8 _
  subst eb8
  have k5 := h5
  have lt5 : ∀ x ∈ p5, x.block < W.heap.size := by obtain ⟨m, hm⟩ := k5; exact DataW.trod_lt m _ _ _ hm
  obtain ⟨cs5, rfl, hs5⟩ := okWide_struct Try.underlying28 (hval 5 28 v5 rfl rfl)
  rw [cells28] at hs5
  obtain ⟨c5_0, c5_1, rfl⟩ := arr2 cs5 hs5
  obtain ⟨fu5, hf5⟩ := h5
  have hg5 : DataW.trod enc Try.prog W 0 (fun _ => true) true fu5 28 [c5_0, c5_1] = some (d5, p5) := by simpa [Value.cells] using hf5
  obtain ⟨_, n9, hF9⟩ := trod_fields Try.underlying28 hg5
  obtain ⟨y10, t10⟩ := hF9 0 _ rfl
  have t10' : DataW.trod enc Try.prog W 0 (fun _ => true) true n9 22 [c5_0] = some y10 := by simpa [cells3, cells22, cells28] using t10
  obtain ⟨a11, ka11, wa11⟩ := (opn_int Try.underlying22) _ _ _ _ t10'
  have eb11 : [c5_0] = [.int .u64 a11] := ka11
  injection eb11 with eb11 _
  subst eb11
  obtain ⟨y12, t12⟩ := hF9 1 _ rfl
  have t12' : DataW.trod enc Try.prog W 0 (fun _ => true) true n9 3 [c5_1] = some y12 := by simpa [cells3, cells22, cells28] using t12
  obtain ⟨a13, ka13, wa13⟩ := (opn_int Try.underlying3) _ _ _ _ t12'
  have eb13 : [c5_1] = [.int .i64 a13] := ka13
  injection eb13 with eb13 _
  subst eb13
  clear hA0 hval0 hsz0 hsz
  refine (NumApart.law_ok a0 a1 a2 a3 a6 a8 a11 a13 W wa0 wa1 wa2 wa3 wa6 wa8 wa11 wa13).mono fun e W' ⟨he, bel⟩ => ?_
  subst he
  exact ⟨_, rfl, _, _, _, [], _, [], hW', trodAll_mk1 (shut_bool Try.underlying4 _), (trodAll_cons_mk (Below.trod laidOut (by kernel_rfl) (of_decide_eq_true (by kernel_rfl)) k0 bel lt0) (trodAll_cons_mk (Below.trod laidOut (by kernel_rfl) (of_decide_eq_true (by kernel_rfl)) k1 bel lt1) (trodAll_cons_mk (Below.trod laidOut (by kernel_rfl) (of_decide_eq_true (by kernel_rfl)) k2 bel lt2) (trodAll_cons_mk (Below.trod laidOut (by kernel_rfl) (of_decide_eq_true (by kernel_rfl)) k3 bel lt3) (trodAll_cons_mk (Below.trod laidOut (by kernel_rfl) (of_decide_eq_true (by kernel_rfl)) k4 bel lt4) (trodAll_cons_mk (Below.trod laidOut (by kernel_rfl) (of_decide_eq_true (by kernel_rfl)) k5 bel lt5) trodAll_mk0)))))), rfl, bel.frame _, fun h => by cases h⟩
theorem over : Rows.numApartRow.holds Try.pinned (OpenSpec.ofChange Rows.numApartSpec) :=
  OpenClaim.holds_of_wide 4 Try.f4 rfl rfl rfl rfl rfl rfl rfl ⟨rfl, rfl, rfl, rfl, rfl⟩ rfl rfl rfl rfl rfl (by kernel_rfl) Try.func4 (by kernel_rfl)
    (of_decide_eq_true (by kernel_rfl)) (by unfold Func.isWrapper; first | (rw [if_pos (by decide +kernel)]; kernel_rfl) | (rw [if_neg (by decide +kernel)]; exact ⟨rfl, rfl⟩))
    (fun os started H enc _ => lifted os started H enc)
theorem proved : Rows.NumApartSaid := over
end Go.Proofs.Ytolcmjoapnldiaa.numApart
namespace Go.Proofs.Ytolcmjoapnldiaa
/-- The row, under a short name, for the claim. -/
theorem numApart_holds : Rows.NumApartSaid := numApart.proved
end Go.Proofs.Ytolcmjoapnldiaa
