/- The row of the law RecKinds: out of my walk of it, for whatever arguments can be read; no conditions beyond the given statement's. -/
import Derived.Test.YtopfaeefhicljaaRows
import Derived.Test.YtopfaeefhicljaaRecKinds
import Derived.Test.YtopfaeefhicljaaOpen
import Derived.WalkKit
import Derived.ProofKit
import Derived.OpenShut
import Derived.ShutString
import Derived.ChangeOld
import Derived.Below
import Derived.SizedLaws
namespace Go.Proofs.Ytopfaeefhicljaa.recKinds
open Go.ChangeShapes Go.WideShapes Go.ChangeAt Go.RowKit Go.Proofs.Ytopfaeefhicljaa.Open Go.Proofs.YtopfaeefhicljaaW.PrintWords
open Go.ChangeMaps (open_string shut_string)
set_option linter.unusedVariables false
set_option linter.unusedSimpArgs false
theorem own : ownKnob Try.prog.godebug = none := by kernel_rfl
theorem laidOut : laidOutB Try.prog = true := by kernel_rfl
theorem cells3 : Try.prog.cellsOf 3 = 1 := by kernel_rfl
theorem cells22 : Try.prog.cellsOf 22 = 1 := by kernel_rfl
theorem cells44 : Try.prog.cellsOf 44 = 2 := by kernel_rfl
theorem arr2 : ∀ (cs : Array Value), cs.size = 2 → ∃ c0 c1, cs = #[c0, c1]
  | ⟨[c0, c1]⟩, _ => ⟨_, _, rfl⟩
set_option maxRecDepth 100000 in
theorem lifted (os : Os) (started : os.Started) (H : Type) (enc : TypeId × Value → H) :
    ReturnsInHanded {} Try.checked os 10 .any (Rows.recKindsSpec.pre6 enc Try.prog Try.f10 Rows.recKindsRow.domain false) (Rows.recKindsSpec.post enc Try.prog Try.f10 false true false false) := by
  refine returnsInHanded_of_change_sized (C := Try.checked) own started (by kernel_rfl) Try.func10
    (ChangeSpec.witness6 (enc := enc) (C := Try.checked) false ⟨#[], #[.int .i64 0, .int .i64 0, .agg #[.int .u64 0, .int .i64 0]], []⟩ 8 (by kernel_rfl) (by kernel_rfl) (by kernel_rfl) (by kernel_rfl)) ?_
  intro W base args ds gs before hval0 hW hcnd hsz0 _
  have hsz : (DataW.weightsEach Try.prog (Try.f10.params.toList ++ Rows.recKindsSpec.plain.varTypes Try.prog) (ds ++ gs)).all (· ≤ reachBytes) = true := hsz0
  have hval : ∀ (j : Nat) t v, Try.f10.params[j]? = some t → args[j]? = some v → Value.okWide Try.prog W .any base t v := hval0
  have hW' := hW
  obtain ⟨p, q, hA0, hV, rfl, hfz, hnd⟩ := hW
  have hA : DataW.TrodAll enc Try.prog W 0 (fun _ => true) true Try.f10.params.toList args.toList ds p := hA0
  rw [Try.params10] at hA hval hsz
  obtain ⟨v0, vs0, d0, ds0, p0, q0, hargs, rfl, rfl, h0, r0⟩ := trodAll_cons hA
  obtain ⟨v1, vs1, d1, ds1, p1, q1, rfl, rfl, rfl, h1, r1⟩ := trodAll_cons r0
  obtain ⟨v2, vs2, d2, ds2, p2, q2, rfl, rfl, rfl, h2, r2⟩ := trodAll_cons r1
  obtain ⟨rfl, rfl, rfl⟩ := trodAll_nil r2
  obtain rfl : args = #[v0, v1, v2] := by cases args; simp_all
  obtain ⟨rfl, rfl⟩ := trodVars_none hV
  have k0 := h0
  have lt0 : ∀ x ∈ p0, x.block < W.heap.size := by obtain ⟨m, hm⟩ := k0; exact DataW.trod_lt m _ _ _ hm
  obtain ⟨a0, rfl, _, _, wa0⟩ := open_int Try.underlying3 (hval 0 3 v0 rfl rfl) h0
  have k1 := h1
  have lt1 : ∀ x ∈ p1, x.block < W.heap.size := by obtain ⟨m, hm⟩ := k1; exact DataW.trod_lt m _ _ _ hm
  obtain ⟨a1, rfl, _, _, wa1⟩ := open_int Try.underlying3 (hval 1 3 v1 rfl rfl) h1
  have k2 := h2
  have lt2 : ∀ x ∈ p2, x.block < W.heap.size := by obtain ⟨m, hm⟩ := k2; exact DataW.trod_lt m _ _ _ hm
  obtain ⟨cs2, rfl, hs2⟩ := okWide_struct Try.underlying44 (hval 2 44 v2 rfl rfl)
  rw [cells44] at hs2
  obtain ⟨c2_0, c2_1, rfl⟩ := arr2 cs2 hs2
  obtain ⟨fu2, hf2⟩ := h2
  have hg2 : DataW.trod enc Try.prog W 0 (fun _ => true) true fu2 44 [c2_0, c2_1] = some (d2, p2) := by simpa [Value.cells] using hf2
  obtain ⟨_, n2, hF2⟩ := trod_fields Try.underlying44 hg2
  obtain ⟨y3, t3⟩ := hF2 0 _ rfl
  have t3' : DataW.trod enc Try.prog W 0 (fun _ => true) true n2 22 [c2_0] = some y3 := by simpa [cells22, cells44] using t3
  obtain ⟨a4, ka4, wa4⟩ := (opn_int Try.underlying22) _ _ _ _ t3'
  have eb4 : [c2_0] = [.int .u64 a4] := ka4
  injection eb4 with eb4 _
  subst eb4
  obtain ⟨y5, t5⟩ := hF2 1 _ rfl
  have t5' : DataW.trod enc Try.prog W 0 (fun _ => true) true n2 3 [c2_1] = some y5 := by simpa [cells3, cells22, cells44] using t5
  obtain ⟨a6, ka6, wa6⟩ := (opn_int Try.underlying3) _ _ _ _ t5'
  have eb6 : [c2_1] = [.int .i64 a6] := ka6
  injection eb6 with eb6 _
  subst eb6
  clear hA0 hval0 hsz0 hsz
  refine (RecKinds.law_ok a0 a1 a4 a6 W wa0 wa1 wa4 wa6).mono fun e W' ⟨he, bel⟩ => ?_
  subst he
  exact ⟨_, rfl, _, _, _, [], _, [], hW', trodAll_mk1 (shut_bool Try.underlying4 _), (trodAll_cons_mk (Below.trod laidOut (by kernel_rfl) (of_decide_eq_true (by kernel_rfl)) k0 bel lt0) (trodAll_cons_mk (Below.trod laidOut (by kernel_rfl) (of_decide_eq_true (by kernel_rfl)) k1 bel lt1) (trodAll_cons_mk (Below.trod laidOut (by kernel_rfl) (of_decide_eq_true (by kernel_rfl)) k2 bel lt2) trodAll_mk0))), rfl, bel.frame _, fun h => by cases h⟩
theorem over : Rows.recKindsRow.holds Try.pinned (OpenSpec.ofChange Rows.recKindsSpec) :=
  OpenClaim.holds_of_wide 10 Try.f10 rfl rfl rfl rfl rfl rfl rfl ⟨rfl, rfl, rfl, rfl, rfl⟩ rfl rfl rfl rfl rfl (by kernel_rfl) Try.func10 (by kernel_rfl)
    (of_decide_eq_true (by kernel_rfl)) (by unfold Func.isWrapper; first | (rw [if_pos (by decide +kernel)]; kernel_rfl) | (rw [if_neg (by decide +kernel)]; exact ⟨rfl, rfl⟩))
    (fun os started H enc _ => lifted os started H enc)
theorem proved : Rows.RecKindsSaid := over
end Go.Proofs.Ytopfaeefhicljaa.recKinds
namespace Go.Proofs.Ytopfaeefhicljaa
/-- The row, under a short name, for the claim. -/
theorem recKinds_holds : Rows.RecKindsSaid := recKinds.proved
end Go.Proofs.Ytopfaeefhicljaa
