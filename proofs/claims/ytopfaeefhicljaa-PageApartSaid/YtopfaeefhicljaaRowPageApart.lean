/- The row of the law PageApart: out of my walk of it, for whatever arguments can be read; no conditions beyond the given statement's. -/
import Derived.Test.YtopfaeefhicljaaRows
import Derived.Test.YtopfaeefhicljaaPgApart
import Derived.Test.YtopfaeefhicljaaOpen
import Derived.WalkKit
import Derived.ProofKit
import Derived.OpenShut
import Derived.ShutString
import Derived.ChangeOld
import Derived.Below
import Derived.SizedLaws
namespace Go.Proofs.Ytopfaeefhicljaa.pageApart
open Go.ChangeShapes Go.WideShapes Go.ChangeAt Go.RowKit Go.Proofs.Ytopfaeefhicljaa.Open Go.Proofs.YtopfaeefhicljaaW.PrintWords
open Go.ChangeMaps (open_string shut_string)
set_option linter.unusedVariables false
set_option linter.unusedSimpArgs false
theorem own : ownKnob Try.prog.godebug = none := by kernel_rfl
theorem laidOut : laidOutB Try.prog = true := by kernel_rfl
theorem cells3 : Try.prog.cellsOf 3 = 1 := by kernel_rfl
theorem cells24 : Try.prog.cellsOf 24 = 1 := by kernel_rfl
theorem cells25 : Try.prog.cellsOf 25 = 1 := by kernel_rfl
theorem cells27 : Try.prog.cellsOf 27 = 8 := by kernel_rfl
theorem arr8 : ∀ (cs : Array Value), cs.size = 8 → ∃ c0 c1 c2 c3 c4 c5 c6 c7, cs = #[c0, c1, c2, c3, c4, c5, c6, c7]
  | ⟨[c0, c1, c2, c3, c4, c5, c6, c7]⟩, _ => ⟨_, _, _, _, _, _, _, _, rfl⟩
set_option maxRecDepth 100000 in
theorem lifted (os : Os) (started : os.Started) (H : Type) (enc : TypeId × Value → H) :
    ReturnsInHanded {} Try.checked os 8 .any (Rows.pageApartSpec.pre6 enc Try.prog Try.f8 Rows.pageApartRow.domain false) (Rows.pageApartSpec.post enc Try.prog Try.f8 false true false false) := by
  refine returnsInHanded_of_change_sized (C := Try.checked) own started (by kernel_rfl) Try.func8
    (ChangeSpec.witness6 (enc := enc) (C := Try.checked) false ⟨#[], #[.agg #[.int .i64 0, .slice none 0 0, .slice none 0 0, .slice none 0 0, .int .i64 0, .int .i64 0, .int .i64 0, .int .i64 0], .agg #[.int .i64 0, .slice none 0 0, .slice none 0 0, .slice none 0 0, .int .i64 0, .int .i64 0, .int .i64 0, .int .i64 0], .int .u64 0, .int .u64 0, .int .i64 0], []⟩ 8 (by kernel_rfl) (by kernel_rfl) (by kernel_rfl) (by kernel_rfl)) ?_
  intro W base args ds gs before hval0 hW hcnd hsz0 _
  have hsz : (DataW.weightsEach Try.prog (Try.f8.params.toList ++ Rows.pageApartSpec.plain.varTypes Try.prog) (ds ++ gs)).all (· ≤ reachBytes) = true := hsz0
  have hval : ∀ (j : Nat) t v, Try.f8.params[j]? = some t → args[j]? = some v → Value.okWide Try.prog W .any base t v := hval0
  have hW' := hW
  obtain ⟨p, q, hA0, hV, rfl, hfz, hnd⟩ := hW
  have hA : DataW.TrodAll enc Try.prog W 0 (fun _ => true) true Try.f8.params.toList args.toList ds p := hA0
  rw [Try.params8] at hA hval hsz
  obtain ⟨v0, vs0, d0, ds0, p0, q0, hargs, rfl, rfl, h0, r0⟩ := trodAll_cons hA
  obtain ⟨v1, vs1, d1, ds1, p1, q1, rfl, rfl, rfl, h1, r1⟩ := trodAll_cons r0
  obtain ⟨v2, vs2, d2, ds2, p2, q2, rfl, rfl, rfl, h2, r2⟩ := trodAll_cons r1
  obtain ⟨v3, vs3, d3, ds3, p3, q3, rfl, rfl, rfl, h3, r3⟩ := trodAll_cons r2
  obtain ⟨v4, vs4, d4, ds4, p4, q4, rfl, rfl, rfl, h4, r4⟩ := trodAll_cons r3
  obtain ⟨rfl, rfl, rfl⟩ := trodAll_nil r4
  obtain rfl : args = #[v0, v1, v2, v3, v4] := by cases args; simp_all
  obtain ⟨rfl, rfl⟩ := trodVars_none hV
  have k0 := h0
  have lt0 : ∀ x ∈ p0, x.block < W.heap.size := by obtain ⟨m, hm⟩ := k0; exact DataW.trod_lt m _ _ _ hm
  obtain ⟨cs0, rfl, hs0⟩ := okWide_struct Try.underlying27 (hval 0 27 v0 rfl rfl)
  rw [cells27] at hs0
  obtain ⟨c0_0, c0_1, c0_2, c0_3, c0_4, c0_5, c0_6, c0_7, rfl⟩ := arr8 cs0 hs0
  obtain ⟨fu0, hf0⟩ := h0
  have hg0 : DataW.trod enc Try.prog W 0 (fun _ => true) true fu0 27 [c0_0, c0_1, c0_2, c0_3, c0_4, c0_5, c0_6, c0_7] = some (d0, p0) := by simpa [Value.cells] using hf0
  obtain ⟨_, n0, hF0⟩ := trod_fields Try.underlying27 hg0
  obtain ⟨y1, t1⟩ := hF0 0 _ rfl
  have t1' : DataW.trod enc Try.prog W 0 (fun _ => true) true n0 3 [c0_0] = some y1 := by simpa [cells3, cells27] using t1
  obtain ⟨a2, ka2, wa2⟩ := (opn_int Try.underlying3) _ _ _ _ t1'
  have eb2 : [c0_0] = [.int .i64 a2] := ka2
  injection eb2 with eb2 _
  subst eb2
  obtain ⟨y3, t3⟩ := hF0 1 _ rfl
  have t3' : DataW.trod enc Try.prog W 0 (fun _ => true) true n0 24 [c0_1] = some y3 := by simpa [cells3, cells24, cells27] using t3
  obtain ⟨a4, ka4, wa4⟩ := (opn_slice Try.underlying24 (by kernel_rfl) (opn_string Try.underlying9)) _ _ _ _ t3'
  obtain ⟨A4, c4, ea4, hca4, hCa4⟩ := ka4
  have eb4 : [c0_1] = [.slice A4 a4.length c4] := ea4
  injection eb4 with eb4 _
  subst eb4
  obtain ⟨y5, t5⟩ := hF0 2 _ rfl
  have t5' : DataW.trod enc Try.prog W 0 (fun _ => true) true n0 24 [c0_2] = some y5 := by simpa [cells3, cells24, cells27] using t5
  obtain ⟨a6, ka6, wa6⟩ := (opn_slice Try.underlying24 (by kernel_rfl) (opn_string Try.underlying9)) _ _ _ _ t5'
  obtain ⟨A6, c6, ea6, hca6, hCa6⟩ := ka6
  have eb6 : [c0_2] = [.slice A6 a6.length c6] := ea6
  injection eb6 with eb6 _
  subst eb6
  obtain ⟨y7, t7⟩ := hF0 3 _ rfl
  have t7' : DataW.trod enc Try.prog W 0 (fun _ => true) true n0 25 [c0_3] = some y7 := by simpa [cells3, cells24, cells25, cells27] using t7
  obtain ⟨a8, ka8, wa8⟩ := (opn_slice Try.underlying25 (by kernel_rfl) (opn_int Try.underlying3)) _ _ _ _ t7'
  obtain ⟨A8, c8, ea8, hca8, hCa8⟩ := ka8
  have eb8 : [c0_3] = [.slice A8 a8.length c8] := ea8
  injection eb8 with eb8 _
  subst eb8
  obtain ⟨y9, t9⟩ := hF0 4 _ rfl
  have t9' : DataW.trod enc Try.prog W 0 (fun _ => true) true n0 3 [c0_4] = some y9 := by simpa [cells3, cells24, cells25, cells27] using t9
  obtain ⟨a10, ka10, wa10⟩ := (opn_int Try.underlying3) _ _ _ _ t9'
  have eb10 : [c0_4] = [.int .i64 a10] := ka10
  injection eb10 with eb10 _
  subst eb10
  obtain ⟨y11, t11⟩ := hF0 5 _ rfl
  have t11' : DataW.trod enc Try.prog W 0 (fun _ => true) true n0 3 [c0_5] = some y11 := by simpa [cells3, cells24, cells25, cells27] using t11
  obtain ⟨a12, ka12, wa12⟩ := (opn_int Try.underlying3) _ _ _ _ t11'
  have eb12 : [c0_5] = [.int .i64 a12] := ka12
  injection eb12 with eb12 _
  subst eb12
  obtain ⟨y13, t13⟩ := hF0 6 _ rfl
  have t13' : DataW.trod enc Try.prog W 0 (fun _ => true) true n0 3 [c0_6] = some y13 := by simpa [cells3, cells24, cells25, cells27] using t13
  obtain ⟨a14, ka14, wa14⟩ := (opn_int Try.underlying3) _ _ _ _ t13'
  have eb14 : [c0_6] = [.int .i64 a14] := ka14
  injection eb14 with eb14 _
  subst eb14
  obtain ⟨y15, t15⟩ := hF0 7 _ rfl
  have t15' : DataW.trod enc Try.prog W 0 (fun _ => true) true n0 3 [c0_7] = some y15 := by simpa [cells3, cells24, cells25, cells27] using t15
  obtain ⟨a16, ka16, wa16⟩ := (opn_int Try.underlying3) _ _ _ _ t15'
  have eb16 : [c0_7] = [.int .i64 a16] := ka16
  injection eb16 with eb16 _
  subst eb16
  have k1 := h1
  have lt1 : ∀ x ∈ p1, x.block < W.heap.size := by obtain ⟨m, hm⟩ := k1; exact DataW.trod_lt m _ _ _ hm
  obtain ⟨cs1, rfl, hs1⟩ := okWide_struct Try.underlying27 (hval 1 27 v1 rfl rfl)
  rw [cells27] at hs1
  obtain ⟨c1_0, c1_1, c1_2, c1_3, c1_4, c1_5, c1_6, c1_7, rfl⟩ := arr8 cs1 hs1
  obtain ⟨fu1, hf1⟩ := h1
  have hg1 : DataW.trod enc Try.prog W 0 (fun _ => true) true fu1 27 [c1_0, c1_1, c1_2, c1_3, c1_4, c1_5, c1_6, c1_7] = some (d1, p1) := by simpa [Value.cells] using hf1
  obtain ⟨_, n17, hF17⟩ := trod_fields Try.underlying27 hg1
  obtain ⟨y18, t18⟩ := hF17 0 _ rfl
  have t18' : DataW.trod enc Try.prog W 0 (fun _ => true) true n17 3 [c1_0] = some y18 := by simpa [cells3, cells24, cells25, cells27] using t18
  obtain ⟨a19, ka19, wa19⟩ := (opn_int Try.underlying3) _ _ _ _ t18'
  have eb19 : [c1_0] = [.int .i64 a19] := ka19
  injection eb19 with eb19 _
  subst eb19
  obtain ⟨y20, t20⟩ := hF17 1 _ rfl
  have t20' : DataW.trod enc Try.prog W 0 (fun _ => true) true n17 24 [c1_1] = some y20 := by simpa [cells3, cells24, cells25, cells27] using t20
  obtain ⟨a21, ka21, wa21⟩ := (opn_slice Try.underlying24 (by kernel_rfl) (opn_string Try.underlying9)) _ _ _ _ t20'
  obtain ⟨A21, c21, ea21, hca21, hCa21⟩ := ka21
  have eb21 : [c1_1] = [.slice A21 a21.length c21] := ea21
  injection eb21 with eb21 _
  subst eb21
  obtain ⟨y22, t22⟩ := hF17 2 _ rfl
  have t22' : DataW.trod enc Try.prog W 0 (fun _ => true) true n17 24 [c1_2] = some y22 := by simpa [cells3, cells24, cells25, cells27] using t22
  obtain ⟨a23, ka23, wa23⟩ := (opn_slice Try.underlying24 (by kernel_rfl) (opn_string Try.underlying9)) _ _ _ _ t22'
  obtain ⟨A23, c23, ea23, hca23, hCa23⟩ := ka23
  have eb23 : [c1_2] = [.slice A23 a23.length c23] := ea23
  injection eb23 with eb23 _
  subst eb23
  obtain ⟨y24, t24⟩ := hF17 3 _ rfl
  have t24' : DataW.trod enc Try.prog W 0 (fun _ => true) true n17 25 [c1_3] = some y24 := by simpa [cells3, cells24, cells25, cells27] using t24
  obtain ⟨a25, ka25, wa25⟩ := (opn_slice Try.underlying25 (by kernel_rfl) (opn_int Try.underlying3)) _ _ _ _ t24'
  obtain ⟨A25, c25, ea25, hca25, hCa25⟩ := ka25
  have eb25 : [c1_3] = [.slice A25 a25.length c25] := ea25
  injection eb25 with eb25 _
  subst eb25
  obtain ⟨y26, t26⟩ := hF17 4 _ rfl
  have t26' : DataW.trod enc Try.prog W 0 (fun _ => true) true n17 3 [c1_4] = some y26 := by simpa [cells3, cells24, cells25, cells27] using t26
  obtain ⟨a27, ka27, wa27⟩ := (opn_int Try.underlying3) _ _ _ _ t26'
  have eb27 : [c1_4] = [.int .i64 a27] := ka27
  injection eb27 with eb27 _
  subst eb27
  obtain ⟨y28, t28⟩ := hF17 5 _ rfl
  have t28' : DataW.trod enc Try.prog W 0 (fun _ => true) true n17 3 [c1_5] = some y28 := by simpa [cells3, cells24, cells25, cells27] using t28
  obtain ⟨a29, ka29, wa29⟩ := (opn_int Try.underlying3) _ _ _ _ t28'
  have eb29 : [c1_5] = [.int .i64 a29] := ka29
  injection eb29 with eb29 _
  subst eb29
  obtain ⟨y30, t30⟩ := hF17 6 _ rfl
  have t30' : DataW.trod enc Try.prog W 0 (fun _ => true) true n17 3 [c1_6] = some y30 := by simpa [cells3, cells24, cells25, cells27] using t30
  obtain ⟨a31, ka31, wa31⟩ := (opn_int Try.underlying3) _ _ _ _ t30'
  have eb31 : [c1_6] = [.int .i64 a31] := ka31
  injection eb31 with eb31 _
  subst eb31
  obtain ⟨y32, t32⟩ := hF17 7 _ rfl
  have t32' : DataW.trod enc Try.prog W 0 (fun _ => true) true n17 3 [c1_7] = some y32 := by simpa [cells3, cells24, cells25, cells27] using t32
  obtain ⟨a33, ka33, wa33⟩ := (opn_int Try.underlying3) _ _ _ _ t32'
  have eb33 : [c1_7] = [.int .i64 a33] := ka33
  injection eb33 with eb33 _
  subst eb33
  have k2 := h2
  have lt2 : ∀ x ∈ p2, x.block < W.heap.size := by obtain ⟨m, hm⟩ := k2; exact DataW.trod_lt m _ _ _ hm
  obtain ⟨a34, rfl, _, _, wa34⟩ := open_int Try.underlying22 (hval 2 22 v2 rfl rfl) h2
  have k3 := h3
  have lt3 : ∀ x ∈ p3, x.block < W.heap.size := by obtain ⟨m, hm⟩ := k3; exact DataW.trod_lt m _ _ _ hm
  obtain ⟨a35, rfl, _, _, wa35⟩ := open_int Try.underlying22 (hval 3 22 v3 rfl rfl) h3
  have k4 := h4
  have lt4 : ∀ x ∈ p4, x.block < W.heap.size := by obtain ⟨m, hm⟩ := k4; exact DataW.trod_lt m _ _ _ hm
  obtain ⟨a36, rfl, _, _, wa36⟩ := open_int Try.underlying3 (hval 4 3 v4 rfl rfl) h4
  clear hA0 hval0 hsz0 hsz
  refine (PgApart.law_ok a2 A4 c4 a4 A6 c6 a6 A8 c8 a8 a10 a12 a14 a16 a19 A21 c21 a21 A23 c23 a23 A25 c25 a25 a27 a29 a31 a33 a34 a35 a36 W wa2 hca4 hCa4 wa4 hca6 hCa6 wa6 hca8 hCa8 wa8 wa10 wa12 wa14 wa16 wa19 hca21 hCa21 wa21 hca23 hCa23 wa23 hca25 hCa25 wa25 wa27 wa29 wa31 wa33 wa34 wa35 wa36).mono fun e W' ⟨he, bel⟩ => ?_
  subst he
  exact ⟨_, rfl, _, _, _, [], _, [], hW', trodAll_mk1 (shut_bool Try.underlying4 _), (trodAll_cons_mk (Below.trod laidOut (by kernel_rfl) (of_decide_eq_true (by kernel_rfl)) k0 bel lt0) (trodAll_cons_mk (Below.trod laidOut (by kernel_rfl) (of_decide_eq_true (by kernel_rfl)) k1 bel lt1) (trodAll_cons_mk (Below.trod laidOut (by kernel_rfl) (of_decide_eq_true (by kernel_rfl)) k2 bel lt2) (trodAll_cons_mk (Below.trod laidOut (by kernel_rfl) (of_decide_eq_true (by kernel_rfl)) k3 bel lt3) (trodAll_cons_mk (Below.trod laidOut (by kernel_rfl) (of_decide_eq_true (by kernel_rfl)) k4 bel lt4) trodAll_mk0))))), rfl, bel.frame _, fun h => by cases h⟩
theorem over : Rows.pageApartRow.holds Try.pinned (OpenSpec.ofChange Rows.pageApartSpec) :=
  OpenClaim.holds_of_wide 8 Try.f8 rfl rfl rfl rfl rfl rfl rfl ⟨rfl, rfl, rfl, rfl, rfl⟩ rfl rfl rfl rfl rfl (by kernel_rfl) Try.func8 (by kernel_rfl)
    (of_decide_eq_true (by kernel_rfl)) (by unfold Func.isWrapper; first | (rw [if_pos (by decide +kernel)]; kernel_rfl) | (rw [if_neg (by decide +kernel)]; exact ⟨rfl, rfl⟩))
    (fun os started H enc _ => lifted os started H enc)
theorem proved : Rows.PageApartSaid := over
end Go.Proofs.Ytopfaeefhicljaa.pageApart
namespace Go.Proofs.Ytopfaeefhicljaa
/-- The row, under a short name, for the claim. -/
theorem pageApart_holds : Rows.PageApartSaid := pageApart.proved
end Go.Proofs.Ytopfaeefhicljaa
