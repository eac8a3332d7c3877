/- The row of the law NumElder: out of my walk of it, for whatever arguments can be read; no conditions beyond the given statement's. -/
import Derived.Test.YtolcmjoapnldiaaRows
import Derived.Test.YtolcmjoapnldiaaNumElder
import Derived.Test.YtolcmjoapnldiaaOpen
import Derived.WalkKit
import Derived.ProofKit
import Derived.OpenShut
import Derived.ShutString
import Derived.ChangeOld
import Derived.Below
import Derived.SizedLaws
namespace Go.Proofs.Ytolcmjoapnldiaa.numElder
open Go.ChangeShapes Go.WideShapes Go.ChangeAt Go.RowKit Go.Proofs.Ytolcmjoapnldiaa.Open Go.Proofs.YtolcmjoapnldiaaW.PrintWords
open Go.ChangeMaps (open_string shut_string)
set_option linter.unusedVariables false
set_option linter.unusedSimpArgs false
theorem own : ownKnob Try.prog.godebug = none := by kernel_rfl
theorem laidOut : laidOutB Try.prog = true := by kernel_rfl
theorem cells3 : Try.prog.cellsOf 3 = 1 := by kernel_rfl
theorem cells22 : Try.prog.cellsOf 22 = 1 := by kernel_rfl
theorem cells28 : Try.prog.cellsOf 28 = 2 := by kernel_rfl
theorem arr2 : ∀ (cs : Array Value), cs.size = 2 → ∃ c0 c1, cs = #[c0, c1]
  | ⟨[c0, c1]⟩, _ => ⟨_, _, rfl⟩
set_option maxRecDepth 100000 in
theorem lifted (os : Os) (started : os.Started) (H : Type) (enc : TypeId × Value → H) :
    ReturnsInHanded {} Try.checked os 6 .any (Rows.numElderSpec.pre6 enc Try.prog Try.f6 Rows.numElderRow.domain false) (Rows.numElderSpec.post enc Try.prog Try.f6 false true false false) := by
  refine returnsInHanded_of_change_sized (C := Try.checked) own started (by kernel_rfl) Try.func6
    (ChangeSpec.witness6 (enc := enc) (C := Try.checked) false ⟨#[], #[.agg #[.int .u64 0, .int .i64 0], .agg #[.int .u64 0, .int .i64 0], .agg #[.int .u64 0, .int .i64 0]], []⟩ 8 (by kernel_rfl) (by kernel_rfl) (by kernel_rfl) (by kernel_rfl)) ?_
  intro W base args ds gs before hval0 hW hcnd hsz0 _
  have hsz : (DataW.weightsEach Try.prog (Try.f6.params.toList ++ Rows.numElderSpec.plain.varTypes Try.prog) (ds ++ gs)).all (· ≤ reachBytes) = true := hsz0
  have hval : ∀ (j : Nat) t v, Try.f6.params[j]? = some t → args[j]? = some v → Value.okWide Try.prog W .any base t v := hval0
  have hW' := hW
  obtain ⟨p, q, hA0, hV, rfl, hfz, hnd⟩ := hW
  have hA : DataW.TrodAll enc Try.prog W 0 (fun _ => true) true Try.f6.params.toList args.toList ds p := hA0
  rw [Try.params6] at hA hval hsz
  obtain ⟨v0, vs0, d0, ds0, p0, q0, hargs, rfl, rfl, h0, r0⟩ := trodAll_cons hA
  obtain ⟨v1, vs1, d1, ds1, p1, q1, rfl, rfl, rfl, h1, r1⟩ := trodAll_cons r0
  obtain ⟨v2, vs2, d2, ds2, p2, q2, rfl, rfl, rfl, h2, r2⟩ := trodAll_cons r1
  obtain ⟨rfl, rfl, rfl⟩ := trodAll_nil r2
  obtain rfl : args = #[v0, v1, v2] := by cases args; simp_all
  obtain ⟨rfl, rfl⟩ := trodVars_none hV
  have k0 := h0
  have lt0 : ∀ x ∈ p0, x.block < W.heap.size := by obtain ⟨m, hm⟩ := k0; exact DataW.trod_lt m _ _ _ hm
  obtain ⟨cs0, rfl, hs0⟩ := okWide_struct Try.underlying28 (hval 0 28 v0 rfl rfl)
  rw [cells28] at hs0
  obtain ⟨c0_0, c0_1, rfl⟩ := arr2 cs0 hs0
  obtain ⟨fu0, hf0⟩ := h0
  have hg0 : DataW.trod enc Try.prog W 0 (fun _ => true) true fu0 28 [c0_0, c0_1] = some (d0, p0) := by simpa [Value.cells] using hf0
  obtain ⟨_, n0, hF0⟩ := trod_fields Try.underlying28 hg0
  obtain ⟨y1, t1⟩ := hF0 0 _ rfl
  have t1' : DataW.trod enc Try.prog W 0 (fun _ => true) true n0 22 [c0_0] = some y1 := by simpa [cells22, cells28] using t1
  obtain ⟨a2, ka2, wa2⟩ := (opn_int Try.underlying22) _ _ _ _ t1'
  have eb2 : [c0_0] = [.int .u64 a2] := ka2
  injection eb2 with eb2 _
  subst eb2
  obtain ⟨y3, t3⟩ := hF0 1 _ rfl
  have t3' : DataW.trod enc Try.prog W 0 (fun _ => true) true n0 3 [c0_1] = some y3 := by simpa [cells3, cells22, cells28] using t3
  obtain ⟨a4, ka4, wa4⟩ := (opn_int Try.underlying3) _ _ _ _ t3'
  have eb4 : [c0_1] = [.int .i64 a4] := ka4
  injection eb4 with eb4 _
  subst eb4
  have k1 := h1
  have lt1 : ∀ x ∈ p1, x.block < W.heap.size := by obtain ⟨m, hm⟩ := k1; exact DataW.trod_lt m _ _ _ hm
  obtain ⟨cs1, rfl, hs1⟩ := okWide_struct Try.underlying28 (hval 1 28 v1 rfl rfl)
  rw [cells28] at hs1
  obtain ⟨c1_0, c1_1, rfl⟩ := arr2 cs1 hs1
  obtain ⟨fu1, hf1⟩ := h1
  have hg1 : DataW.trod enc Try.prog W 0 (fun _ => true) true fu1 28 [c1_0, c1_1] = some (d1, p1) := by simpa [Value.cells] using hf1
  obtain ⟨_, n5, hF5⟩ := trod_fields Try.underlying28 hg1
  obtain ⟨y6, t6⟩ := hF5 0 _ rfl
  have t6' : DataW.trod enc Try.prog W 0 (fun _ => true) true n5 22 [c1_0] = some y6 := by simpa [cells3, cells22, cells28] using t6
  obtain ⟨a7, ka7, wa7⟩ := (opn_int Try.underlying22) _ _ _ _ t6'
  have eb7 : [c1_0] = [.int .u64 a7] := ka7
  injection eb7 with eb7 _
  subst eb7
  obtain ⟨y8, t8⟩ := hF5 1 _ rfl
  have t8' : DataW.trod enc Try.prog W 0 (fun _ => true) true n5 3 [c1_1] = some y8 := by simpa [cells3, cells22, cells28] using t8
  obtain ⟨a9, ka9, wa9⟩ := (opn_int Try.underlying3) _ _ _ _ t8'
  have eb9 : [c1_1] = [.int .i64 a9] := ka9
  injection eb9 with eb9 _
  subst eb9
  have k2 := h2
  have lt2 : ∀ x ∈ p2, x.block < W.heap.size := by obtain ⟨m, hm⟩ := k2; exact DataW.trod_lt m _ _ _ hm
  obtain ⟨cs2, rfl, hs2⟩ := okWide_struct Try.underlying28 (hval 2 28 v2 rfl rfl)
  rw [cells28] at hs2
  obtain ⟨c2_0, c2_1, rfl⟩ := arr2 cs2 hs2
  obtain ⟨fu2, hf2⟩ := h2
  have hg2 : DataW.trod enc Try.prog W 0 (fun _ => true) true fu2 28 [c2_0, c2_1] = some (d2, p2) := by simpa [Value.cells] using hf2
  obtain ⟨_, n10, hF10⟩ := trod_fields Try.underlying28 hg2
  obtain ⟨y11, t11⟩ := hF10 0 _ rfl
  have t11' : DataW.trod enc Try.prog W 0 (fun _ => true) true n10 22 [c2_0] = some y11 := by simpa [cells3, cells22, cells28] using t11
  obtain ⟨a12, ka12, wa12⟩ := (opn_int Try.underlying22) _ _ _ _ t11'
  have eb12 : [c2_0] = [.int .u64 a12] := ka12
  injection eb12 with eb12 _
  subst eb12
  obtain ⟨y13, t13⟩ := hF10 1 _ rfl
  have t13' : DataW.trod enc Try.prog W 0 (fun _ => true) true n10 3 [c2_1] = some y13 := by simpa [cells3, cells22, cells28] using t13
  obtain ⟨a14, ka14, wa14⟩ := (opn_int Try.underlying3) _ _ _ _ t13'
  have eb14 : [c2_1] = [.int .i64 a14] := ka14
  injection eb14 with eb14 _
  subst eb14
  clear hA0 hval0 hsz0 hsz
  refine (NumElder.law_ok a2 a4 a7 a9 a12 a14 W wa2 wa4 wa7 wa9 wa12 wa14).mono fun e W' ⟨he, bel⟩ => ?_
  subst he
  exact ⟨_, rfl, _, _, _, [], _, [], hW', trodAll_mk1 (shut_bool Try.underlying4 _), (trodAll_cons_mk (Below.trod laidOut (by kernel_rfl) (of_decide_eq_true (by kernel_rfl)) k0 bel lt0) (trodAll_cons_mk (Below.trod laidOut (by kernel_rfl) (of_decide_eq_true (by kernel_rfl)) k1 bel lt1) (trodAll_cons_mk (Below.trod laidOut (by kernel_rfl) (of_decide_eq_true (by kernel_rfl)) k2 bel lt2) trodAll_mk0))), rfl, bel.frame _, fun h => by cases h⟩
theorem over : Rows.numElderRow.holds Try.pinned (OpenSpec.ofChange Rows.numElderSpec) :=
  OpenClaim.holds_of_wide 6 Try.f6 rfl rfl rfl rfl rfl rfl rfl ⟨rfl, rfl, rfl, rfl, rfl⟩ rfl rfl rfl rfl rfl (by kernel_rfl) Try.func6 (by kernel_rfl)
    (of_decide_eq_true (by kernel_rfl)) (by unfold Func.isWrapper; first | (rw [if_pos (by decide +kernel)]; kernel_rfl) | (rw [if_neg (by decide +kernel)]; exact ⟨rfl, rfl⟩))
    (fun os started H enc _ => lifted os started H enc)
theorem proved : Rows.NumElderSaid := over
end Go.Proofs.Ytolcmjoapnldiaa.numElder
namespace Go.Proofs.Ytolcmjoapnldiaa
/-- The row, under a short name, for the claim. -/
theorem numElder_holds : Rows.NumElderSaid := numElder.proved
end Go.Proofs.Ytolcmjoapnldiaa
