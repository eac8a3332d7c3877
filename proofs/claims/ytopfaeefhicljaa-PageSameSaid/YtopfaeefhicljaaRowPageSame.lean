/- The row of the law PageSame: out of my walk of it, for whatever arguments can be read; no conditions beyond the given statement's. -/
import Derived.Test.YtopfaeefhicljaaRows
import Derived.Test.YtopfaeefhicljaaPgSame
import Derived.Test.YtopfaeefhicljaaOpenW
import Derived.WalkKit
import Derived.ProofKit
import Derived.OpenShut
import Derived.ShutString
import Derived.ChangeOld
import Derived.Below
import Derived.SizedLaws
namespace Go.Proofs.Ytopfaeefhicljaa.pageSame
open Go.ChangeShapes Go.WideShapes Go.ChangeAt Go.RowKit Go.Proofs.Ytopfaeefhicljaa.Open Go.Proofs.YtopfaeefhicljaaW.PrintWords
open Go.ChangeMaps (open_string shut_string)
set_option linter.unusedVariables false
set_option linter.unusedSimpArgs false
theorem own : ownKnob Try.prog.godebug = none := by kernel_rfl
theorem laidOut : laidOutB Try.prog = true := by kernel_rfl
theorem cells3 : Try.prog.cellsOf 3 = 1 := by kernel_rfl
theorem cells24 : Try.prog.cellsOf 24 = 1 := by kernel_rfl
theorem cells25 : Try.prog.cellsOf 25 = 1 := by kernel_rfl
theorem cells27 : Try.prog.cellsOf 27 = 8 := by kernel_rfl
theorem arr8 : ∀ (cs : Array Value), cs.size = 8 → ∃ c0 c1 c2 c3 c4 c5 c6 c7, cs = #[c0, c1, c2, c3, c4, c5, c6, c7]
  | ⟨[c0, c1, c2, c3, c4, c5, c6, c7]⟩, _ => ⟨_, _, _, _, _, _, _, _, rfl⟩
set_option maxRecDepth 100000 in
theorem lifted (os : Os) (started : os.Started) (H : Type) (enc : TypeId × Value → H) :
    ReturnsInHanded {} Try.checked os 5 .any (Rows.pageSameSpec.pre6 enc Try.prog Try.f5 Rows.pageSameRow.domain false) (Rows.pageSameSpec.post enc Try.prog Try.f5 false true false false) := by
  refine returnsInHanded_of_change_sized (C := Try.checked) own started (by kernel_rfl) Try.func5
    (ChangeSpec.witness6 (enc := enc) (C := Try.checked) false ⟨#[], #[.agg #[.int .i64 0, .slice none 0 0, .slice none 0 0, .slice none 0 0, .int .i64 0, .int .i64 0, .int .i64 0, .int .i64 0], .int .i64 0, .int .i64 0], []⟩ 8 (by kernel_rfl) (by kernel_rfl) (by kernel_rfl) (by kernel_rfl)) ?_
  intro W base args ds gs before hval0 hW hcnd hsz0 _
  have hsz : (DataW.weightsEach Try.prog (Try.f5.params.toList ++ Rows.pageSameSpec.plain.varTypes Try.prog) (ds ++ gs)).all (· ≤ reachBytes) = true := hsz0
  have hval : ∀ (j : Nat) t v, Try.f5.params[j]? = some t → args[j]? = some v → Value.okWide Try.prog W .any base t v := hval0
  have hW' := hW
  obtain ⟨p, q, hA0, hV, rfl, hfz, hnd⟩ := hW
  have hA : DataW.TrodAll enc Try.prog W 0 (fun _ => true) true Try.f5.params.toList args.toList ds p := hA0
  rw [Try.params5] at hA hval hsz
  obtain ⟨v0, vs0, d0, ds0, p0, q0, hargs, rfl, rfl, h0, r0⟩ := trodAll_cons hA
  obtain ⟨v1, vs1, d1, ds1, p1, q1, rfl, rfl, rfl, h1, r1⟩ := trodAll_cons r0
  obtain ⟨v2, vs2, d2, ds2, p2, q2, rfl, rfl, rfl, h2, r2⟩ := trodAll_cons r1
  obtain ⟨rfl, rfl, rfl⟩ := trodAll_nil r2
  obtain rfl : args = #[v0, v1, v2] := by cases args; simp_all
  obtain ⟨rfl, rfl⟩ := trodVars_none hV
  have k0 := h0
  have lt0 : ∀ x ∈ p0, x.block < W.heap.size := by obtain ⟨m, hm⟩ := k0; exact DataW.trod_lt m _ _ _ hm
  obtain ⟨cs0, rfl, hs0⟩ := okWide_struct Try.underlying27 (hval 0 27 v0 rfl rfl)
  rw [cells27] at hs0
  obtain ⟨c0_0, c0_1, c0_2, c0_3, c0_4, c0_5, c0_6, c0_7, rfl⟩ := arr8 cs0 hs0
  obtain ⟨fu0, hf0⟩ := h0
  have hg0 : DataW.trod enc Try.prog W 0 (fun _ => true) true fu0 27 [c0_0, c0_1, c0_2, c0_3, c0_4, c0_5, c0_6, c0_7] = some (d0, p0) := by simpa [Value.cells] using hf0
  obtain ⟨_, n0, hF0⟩ := trod_fields_w Try.underlying27 hg0 (sized_at hsz 0 rfl rfl)
  obtain ⟨y1, yq1, t1, hw1⟩ := hF0 0 _ rfl
  have t1' : DataW.trod enc Try.prog W 0 (fun _ => true) true n0 3 [c0_0] = some (y1, yq1) := by simpa [cells3, cells27] using t1
  obtain ⟨a2, ka2, wa2⟩ := (opnw_of (opn_int Try.underlying3)) _ _ _ _ t1' hw1
  have eb2 : [c0_0] = [.int .i64 a2] := ka2
  injection eb2 with eb2 _
  subst eb2
  obtain ⟨y3, yq3, t3, hw3⟩ := hF0 1 _ rfl
  have t3' : DataW.trod enc Try.prog W 0 (fun _ => true) true n0 24 [c0_1] = some (y3, yq3) := by simpa [cells3, cells24, cells27] using t3
  obtain ⟨a4, ka4, wa4⟩ := (opnw_slice Try.underlying24 (by kernel_rfl) (opnw_string Try.underlying9)) _ _ _ _ t3' hw3
  obtain ⟨A4, c4, ea4, hca4, hCa4⟩ := ka4
  have eb4 : [c0_1] = [.slice A4 a4.length c4] := ea4
  injection eb4 with eb4 _
  subst eb4
  obtain ⟨y5, yq5, t5, hw5⟩ := hF0 2 _ rfl
  have t5' : DataW.trod enc Try.prog W 0 (fun _ => true) true n0 24 [c0_2] = some (y5, yq5) := by simpa [cells3, cells24, cells27] using t5
  obtain ⟨a6, ka6, wa6⟩ := (opnw_slice Try.underlying24 (by kernel_rfl) (opnw_string Try.underlying9)) _ _ _ _ t5' hw5
  obtain ⟨A6, c6, ea6, hca6, hCa6⟩ := ka6
  have eb6 : [c0_2] = [.slice A6 a6.length c6] := ea6
  injection eb6 with eb6 _
  subst eb6
  obtain ⟨y7, yq7, t7, hw7⟩ := hF0 3 _ rfl
  have t7' : DataW.trod enc Try.prog W 0 (fun _ => true) true n0 25 [c0_3] = some (y7, yq7) := by simpa [cells3, cells24, cells25, cells27] using t7
  obtain ⟨a8, ka8, wa8⟩ := (opnw_slice Try.underlying25 (by kernel_rfl) (opnw_of (opn_int Try.underlying3))) _ _ _ _ t7' hw7
  obtain ⟨A8, c8, ea8, hca8, hCa8⟩ := ka8
  have eb8 : [c0_3] = [.slice A8 a8.length c8] := ea8
  injection eb8 with eb8 _
  subst eb8
  obtain ⟨y9, yq9, t9, hw9⟩ := hF0 4 _ rfl
  have t9' : DataW.trod enc Try.prog W 0 (fun _ => true) true n0 3 [c0_4] = some (y9, yq9) := by simpa [cells3, cells24, cells25, cells27] using t9
  obtain ⟨a10, ka10, wa10⟩ := (opnw_of (opn_int Try.underlying3)) _ _ _ _ t9' hw9
  have eb10 : [c0_4] = [.int .i64 a10] := ka10
  injection eb10 with eb10 _
  subst eb10
  obtain ⟨y11, yq11, t11, hw11⟩ := hF0 5 _ rfl
  have t11' : DataW.trod enc Try.prog W 0 (fun _ => true) true n0 3 [c0_5] = some (y11, yq11) := by simpa [cells3, cells24, cells25, cells27] using t11
  obtain ⟨a12, ka12, wa12⟩ := (opnw_of (opn_int Try.underlying3)) _ _ _ _ t11' hw11
  have eb12 : [c0_5] = [.int .i64 a12] := ka12
  injection eb12 with eb12 _
  subst eb12
  obtain ⟨y13, yq13, t13, hw13⟩ := hF0 6 _ rfl
  have t13' : DataW.trod enc Try.prog W 0 (fun _ => true) true n0 3 [c0_6] = some (y13, yq13) := by simpa [cells3, cells24, cells25, cells27] using t13
  obtain ⟨a14, ka14, wa14⟩ := (opnw_of (opn_int Try.underlying3)) _ _ _ _ t13' hw13
  have eb14 : [c0_6] = [.int .i64 a14] := ka14
  injection eb14 with eb14 _
  subst eb14
  obtain ⟨y15, yq15, t15, hw15⟩ := hF0 7 _ rfl
  have t15' : DataW.trod enc Try.prog W 0 (fun _ => true) true n0 3 [c0_7] = some (y15, yq15) := by simpa [cells3, cells24, cells25, cells27] using t15
  obtain ⟨a16, ka16, wa16⟩ := (opnw_of (opn_int Try.underlying3)) _ _ _ _ t15' hw15
  have eb16 : [c0_7] = [.int .i64 a16] := ka16
  injection eb16 with eb16 _
  subst eb16
  have k1 := h1
  have lt1 : ∀ x ∈ p1, x.block < W.heap.size := by obtain ⟨m, hm⟩ := k1; exact DataW.trod_lt m _ _ _ hm
  obtain ⟨a17, rfl, _, _, wa17⟩ := open_int Try.underlying3 (hval 1 3 v1 rfl rfl) h1
  have k2 := h2
  have lt2 : ∀ x ∈ p2, x.block < W.heap.size := by obtain ⟨m, hm⟩ := k2; exact DataW.trod_lt m _ _ _ hm
  obtain ⟨a18, rfl, _, _, wa18⟩ := open_int Try.underlying3 (hval 2 3 v2 rfl rfl) h2
  clear hA0 hval0 hsz0 hsz
  refine (PgSame.law_ok a2 A4 c4 a4 A6 c6 a6 A8 c8 a8 a10 a12 a14 a16 a17 a18 W wa2 hca4 hCa4 wa4 hca6 hCa6 wa6 hca8 hCa8 wa8 wa10 wa12 wa14 wa16 wa17 wa18).mono fun e W' ⟨he, bel⟩ => ?_
  subst he
  exact ⟨_, rfl, _, _, _, [], _, [], hW', trodAll_mk1 (shut_bool Try.underlying4 _), (trodAll_cons_mk (Below.trod laidOut (by kernel_rfl) (of_decide_eq_true (by kernel_rfl)) k0 bel lt0) (trodAll_cons_mk (Below.trod laidOut (by kernel_rfl) (of_decide_eq_true (by kernel_rfl)) k1 bel lt1) (trodAll_cons_mk (Below.trod laidOut (by kernel_rfl) (of_decide_eq_true (by kernel_rfl)) k2 bel lt2) trodAll_mk0))), rfl, bel.frame _, fun h => by cases h⟩
theorem over : Rows.pageSameRow.holds Try.pinned (OpenSpec.ofChange Rows.pageSameSpec) :=
  OpenClaim.holds_of_wide 5 Try.f5 rfl rfl rfl rfl rfl rfl rfl ⟨rfl, rfl, rfl, rfl, rfl⟩ rfl rfl rfl rfl rfl (by kernel_rfl) Try.func5 (by kernel_rfl)
    (of_decide_eq_true (by kernel_rfl)) (by unfold Func.isWrapper; first | (rw [if_pos (by decide +kernel)]; kernel_rfl) | (rw [if_neg (by decide +kernel)]; exact ⟨rfl, rfl⟩))
    (fun os started H enc _ => lifted os started H enc)
theorem proved : Rows.PageSameSaid := over
end Go.Proofs.Ytopfaeefhicljaa.pageSame
namespace Go.Proofs.Ytopfaeefhicljaa
/-- The row, under a short name, for the claim. -/
theorem pageSame_holds : Rows.PageSameSaid := pageSame.proved
end Go.Proofs.Ytopfaeefhicljaa
