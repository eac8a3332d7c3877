/- The row of the law WalSectors: out of my walk of it, for whatever arguments can be read; no conditions beyond the given statement's. -/
import Derived.Test.YtihmfccpgahmaaaRows
import Derived.Test.YtihmfccpgahmaaaWalSectors
import Derived.Test.YtihmfccpgahmaaaOpen
import Derived.WalkKit
import Derived.ProofKit
import Derived.OpenShut
import Derived.ShutString
import Derived.ChangeOld
import Derived.Below
import Derived.SizedLaws
namespace Go.Proofs.Ytihmfccpgahmaaa.walSectors
open Go.ChangeShapes Go.WideShapes Go.ChangeAt Go.RowKit Go.Proofs.Ytihmfccpgahmaaa.Open Go.Proofs.YtihmfccpgahmaaaW.PrintWords
open Go.ChangeMaps (open_string shut_string)
set_option linter.unusedVariables false
set_option linter.unusedSimpArgs false
theorem own : ownKnob Try.prog.godebug = none := by kernel_rfl
theorem laidOut : laidOutB Try.prog = true := by kernel_rfl
set_option maxRecDepth 100000 in
theorem lifted (os : Os) (started : os.Started) (H : Type) (enc : TypeId × Value → H) :
    ReturnsInHanded {} Try.checked os 10 .any (Rows.walSectorsSpec.pre6 enc Try.prog Try.f10 Rows.walSectorsRow.domain false) (Rows.walSectorsSpec.post enc Try.prog Try.f10 false true false false) := by
  refine returnsInHanded_of_change_sized (C := Try.checked) own started (by kernel_rfl) Try.func10
    (ChangeSpec.witness6 (enc := enc) (C := Try.checked) false ⟨#[], #[.slice none 0 0, .slice none 0 0], []⟩ 8 (by kernel_rfl) (by kernel_rfl) (by kernel_rfl) (by kernel_rfl)) ?_
  intro W base args ds gs before hval0 hW hcnd hsz0 _
  have hsz : (DataW.weightsEach Try.prog (Try.f10.params.toList ++ Rows.walSectorsSpec.plain.varTypes Try.prog) (ds ++ gs)).all (· ≤ reachBytes) = true := hsz0
  have hval : ∀ (j : Nat) t v, Try.f10.params[j]? = some t → args[j]? = some v → Value.okWide Try.prog W .any base t v := hval0
  have hW' := hW
  obtain ⟨p, q, hA0, hV, rfl, hfz, hnd⟩ := hW
  have hA : DataW.TrodAll enc Try.prog W 0 (fun _ => true) true Try.f10.params.toList args.toList ds p := hA0
  rw [Try.params10] at hA hval hsz
  obtain ⟨v0, vs0, d0, ds0, p0, q0, hargs, rfl, rfl, h0, r0⟩ := trodAll_cons hA
  obtain ⟨v1, vs1, d1, ds1, p1, q1, rfl, rfl, rfl, h1, r1⟩ := trodAll_cons r0
  obtain ⟨rfl, rfl, rfl⟩ := trodAll_nil r1
  obtain rfl : args = #[v0, v1] := by cases args; simp_all
  obtain ⟨rfl, rfl⟩ := trodVars_none hV
  have k0 := h0
  have lt0 : ∀ x ∈ p0, x.block < W.heap.size := by obtain ⟨m, hm⟩ := k0; exact DataW.trod_lt m _ _ _ hm
  obtain ⟨sA0, sl0, sc0, rfl⟩ := okWide_slice Try.underlying22 (hval 0 22 v0 rfl rfl)
  obtain ⟨fu0, hf0⟩ := h0
  obtain ⟨a0, ka0, wa0⟩ := (opn_slice Try.underlying22 (by kernel_rfl) (opn_int Try.underlying5)) _ _ _ _ hf0
  obtain ⟨A0, c0, ea0, hca0, hCa0⟩ := ka0
  have eb0 : [Value.slice sA0 sl0 sc0] = [.slice A0 a0.length c0] := ea0
  injection eb0 with eb0 _
  injection eb0 with eb0 ec0 ed0
  subst eb0 ec0 ed0
  have k1 := h1
  have lt1 : ∀ x ∈ p1, x.block < W.heap.size := by obtain ⟨m, hm⟩ := k1; exact DataW.trod_lt m _ _ _ hm
  obtain ⟨sA1, sl1, sc1, rfl⟩ := okWide_slice Try.underlying22 (hval 1 22 v1 rfl rfl)
  obtain ⟨fu1, hf1⟩ := h1
  obtain ⟨a1, ka1, wa1⟩ := (opn_slice Try.underlying22 (by kernel_rfl) (opn_int Try.underlying5)) _ _ _ _ hf1
  obtain ⟨A1, c1, ea1, hca1, hCa1⟩ := ka1
  have eb1 : [Value.slice sA1 sl1 sc1] = [.slice A1 a1.length c1] := ea1
  injection eb1 with eb1 _
  injection eb1 with eb1 ec1 ed1
  subst eb1 ec1 ed1
  clear hA0 hval0 hsz0 hsz
  refine (Wal.WalSectors.law_ok sA0 sc0 a0 sA1 sc1 a1 W hca0 hCa0 wa0 hca1 hCa1 wa1).mono fun e W' ⟨he, bel⟩ => ?_
  subst he
  exact ⟨_, rfl, _, _, _, [], _, [], hW', trodAll_mk1 (shut_bool Try.underlying4 _), (trodAll_cons_mk (Below.trod laidOut (by kernel_rfl) (of_decide_eq_true (by kernel_rfl)) k0 bel lt0) (trodAll_cons_mk (Below.trod laidOut (by kernel_rfl) (of_decide_eq_true (by kernel_rfl)) k1 bel lt1) trodAll_mk0)), rfl, bel.frame _, fun h => by cases h⟩
theorem over : Rows.walSectorsRow.holds Try.pinned (OpenSpec.ofChange Rows.walSectorsSpec) :=
  OpenClaim.holds_of_wide 10 Try.f10 rfl rfl rfl rfl rfl rfl rfl ⟨rfl, rfl, rfl, rfl, rfl⟩ rfl rfl rfl rfl rfl (by kernel_rfl) Try.func10 (by kernel_rfl)
    (of_decide_eq_true (by kernel_rfl)) (by unfold Func.isWrapper; first | (rw [if_pos (by decide +kernel)]; kernel_rfl) | (rw [if_neg (by decide +kernel)]; exact ⟨rfl, rfl⟩))
    (fun os started H enc _ => lifted os started H enc)
theorem proved : Rows.WalSectorsSaid := over
end Go.Proofs.Ytihmfccpgahmaaa.walSectors
namespace Go.Proofs.Ytihmfccpgahmaaa
/-- The row, under a short name, for the claim. -/
theorem walSectors_holds : Rows.WalSectorsSaid := walSectors.proved
end Go.Proofs.Ytihmfccpgahmaaa
