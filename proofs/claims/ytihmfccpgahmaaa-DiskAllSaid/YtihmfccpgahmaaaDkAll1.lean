/- The closure of DiskAll that reads all sectors, walked. No conditions beyond those that are named. -/
import Derived.Test.YtihmfccpgahmaaaDkOp
namespace Go.Proofs.Ytihmfccpgahmaaa.Dk
open Go Go.RowKit Go.Proofs.YtihmfccpgahmaaaW.PrintWords Go.Proofs.YtihmfccpgahmaaaW.PrintMore Go.Proofs.YtihmfccpgahmaaaW.PrintLast Go.Proofs.Ytihmfccpgahmaaa.Str
set_option linter.unusedVariables false
set_option linter.unusedSimpArgs false
namespace DiskAll
theorem infoS : (Try.prog.info? 9).map (fun i => (i.zero, i.size, i.bytes)) = some (some (.string ByteArray.empty), 1, 16) := by kernel_rfl
/-- What the sectors read as. -/
def allF (M : DA) (n : Nat) : List ByteArray := (List.range n).map (fun (k : Nat) => strOfNums (M.rdB (k : Int)))
theorem allF_succ (M : DA) (n : Nat) : allF M (n + 1) = allF M n ++ [strOfNums (M.rdB (n : Int))] := by
  unfold allF
  rw [List.range_succ, List.map_append]
  rfl
theorem allF_len (M : DA) (n : Nat) : (allF M n).length = n := by simp [allF]
theorem lit_R {α : Type} {enc : α → Value} {h1 : ∀ x, (enc x).oneCell' = true} {base : Nat} {e : TypeId} (W : World) (hb : base ≤ W.heap.size) : (Kd.scalar enc h1).R e (W.alloc (.cells #[] e)) base (fun _ => True) (.slice (some ⟨W.heap.size, 0, none⟩) 0 0) [] :=
  Kd.R_of_own (h1 := h1) (own_lit_of (enc := enc) W base e ([] : List α) hb (by simp)) (fun _ _ => trivial)
set_option maxRecDepth 100000 in
set_option maxHeartbeats 4000000 in
theorem all_ok {w0 w : World} {g kb : Nat} {S : Nat → Prop} {M : DA} (h : St w0 w g S M) (hbox : w.heap[kb]? = some (.cells #[.pointer (some ⟨g, 0, none⟩)] 24 (0, 0))) :
    Calls Try.prog 26 #[.pointer (some ⟨kb, 0, none⟩)] w fun e w' => ∃ v, e = .returned v ∧ Kd.string.R 9 w' w.heap.size (fun _ => True) v (allF M 8) ∧ Below w.heap.size w w' := by
  have HI := Aside0.mk h
  have HX := Aside0.mk hbox
  clear h hbox
  go_enter Try.func26, Try.ntmps26
  go_wp2
  go_loopw [2, 3] (fun v i wr => ∃ k : Nat, k ≤ 8 ∧ i = .int .i64 k ∧ Aside0 (Kd.string.R 9 wr w.heap.size (fun _ => True) v (allF M k) ∧ Below w.heap.size w wr)) (fun _ i _ => 8 - (intOf i).toNat)
  case atStart => exact ⟨0, Nat.zero_le _, rfl, ⟨lit_R w (Nat.le_refl _), below_alloc (Below.refl _ _) _⟩⟩
  case round =>
    obtain ⟨k, hk, rfl, hR⟩ := hrel
    by_cases hlt : k < 8
    · have c0 : wr.cell? ⟨kb, 0, none⟩ = some (.pointer (some ⟨g, 0, none⟩)) := up_cell hR.out.2 ((blk_cell HX.out 0).trans rfl)
      go_wp2_with fail
      refine (st_read (HI.out.below hR.out.2) (k : Int)).mono ?_
      rintro e w7 ⟨⟨A7, c7, l7⟩, rfl, hl, ho, hb⟩
      have cv := cv_all (own_C ho).2 (Below.refl _ _) c7
      have hl' : strOfNums l7 = strOfNums (M.rdB (k : Int)) := congrArg strOfNums hl
      rw [hl'] at cv
      have HR2 := Aside0.mk (Kd.R_below hR.out.1 hb)
      have HB2 := Aside0.mk (below_step hR.out.2 hb)
      unfold Sec.v
      clear hR hl ho hb hl' c0
      go_wp2_with (at_builtin; refine Kd.R_append Kd.string (w0 := w) w.heap.size rfl (.tmp 17) (.tmp 20) 40 9 (.string ByteArray.empty) 16 rfl Try.underlying40 infoS rfl (by decide) (by decide) _ (allF M k) (strOfNums (M.rdB (k : Int))) [.string (strOfNums (M.rdB (k : Int)))] (fun _ => True) (fun _ => False) rfl rfl rfl (fun _ h => h.elim) (fun _ _ => trivial) HR2.out HB2.out HB2.out.size (by rw [allF_len]; omega) ?_; intro v1 w1 hR hB _ _; have HR3 := Aside0.mk hR; have HB3 := Aside0.mk hB; clear hR hB HR2 HB2)
      go_roundw
      case rel => exact ⟨k + 1, hlt, by go_num, ⟨by rw [allF_succ]; exact HR3.out, HB3.out⟩⟩
      case measure => simp [intOf]; omega
    · obtain rfl : k = 8 := by omega
      go_wp2
      go_ret
      exact ⟨u2, rfl, hR.out.1, hR.out.2⟩
end DiskAll
end Go.Proofs.Ytihmfccpgahmaaa.Dk
