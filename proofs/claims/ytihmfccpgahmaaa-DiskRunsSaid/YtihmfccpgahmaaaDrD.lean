/- The law DiskRuns: the disk's calls, walked: Sync, a fuse, off, nothing. No conditions beyond those that are named. -/
import Derived.Test.YtihmfccpgahmaaaDrW
namespace Go.Proofs.Ytihmfccpgahmaaa.Dk
open Go Go.RowKit Go.Proofs.YtihmfccpgahmaaaW.PrintWords Go.Proofs.YtihmfccpgahmaaaW.PrintMore Go.Proofs.YtihmfccpgahmaaaW.PrintLast Go.Proofs.Ytihmfccpgahmaaa.Str
set_option linter.unusedVariables false
set_option linter.unusedSimpArgs false
namespace DiskRuns
def unitC (F : Func) : Code := cl (crn 6 (blk1C F))
section
variable {w W wx : World} {S S' : Nat → Prop} {n k g KB : Nat} {vo v6 v7 v8 v14 v15 : Value} {fuse : Int} {down : Bool} {steps : Int} {M : DA} {o : OpV} {A : Array Value} {bA kA : Option Addr} {bc kc : Nat} {inn : Bool}
theorem step_now : M.step.now = M.now := by
  unfold DA.step
  split
  · rfl
  · split <;> rfl
theorem wr_now {i : Int} {l : List Int} : (M.wr i l).now.length = M.now.length := by
  unfold DA.wr
  split
  · show (M.step.now.set i.toNat l).length = _
    rw [List.length_set, step_now]
  · rfl
theorem sy_now : M.sy.now.length = M.now.length := by
  unfold DA.sy
  split
  · rfl
  · split
    · rw [step_now]
    · show (M.step.wait.foldl DA.lay M.step).now.length = _
      rw [(fold_safe M.step.wait M.step).2.2.1, step_now]
theorem sf_now {n : Int} : (M.setFuse n).now.length = M.now.length := by unfold DA.setFuse; split <;> rfl
theorem sy_wait : M.sy.wait.length ≤ M.wait.length := by
  unfold DA.sy
  split
  · exact Nat.le_refl _
  · split
    · rename_i hf
      unfold DA.step
      rw [if_pos hf]
      exact Nat.le_refl _
    · exact Nat.zero_le _
set_option maxRecDepth 100000 in
set_option maxHeartbeats 8000000 in
theorem do_sync (HF : Fr A n vo g v6 v7 v8 fuse down steps k (.pointer (some ⟨KB, 0, none⟩)) v14 (.int .i64 (lastE M o))) (HS : St w wx g S M) (HL : LR w wx S v6 v7 v8 fuse down steps (lastM M o))
    (HB : wx.heap[KB]? = some (.cells #[.int .i64 o.k, .int .i64 o.at_, .slice bA o.b.length bc, .slice kA o.keep.length kc, .int .i64 o.tear] 36 (0, 0))) (hSB : ¬ S KB) (hwl : M.wait.length ≤ 50) (hst : 0 ≤ steps ∧ steps ≤ k + 1) (hfu : fuse ≤ 9223372036854775807) (h2 : o.k = 2)
    (Q : Exit → Act → World → Prop) (hQ : ∀ A' w' S' v6' v7' v8' f' d' s' M' v14' v15', Fr A' n vo g v6' v7' v8' f' d' s' k (.pointer (some ⟨KB, 0, none⟩)) v14' v15' → St w w' g S' M' → LR w w' S' v6' v7' v8' f' d' s' M' → (M'.wait.length ≤ M.wait.length + 1 ∧ (0 ≤ s' ∧ s' ≤ k + 1) ∧ f' ≤ 9223372036854775807 ∧ M'.now.length = M.now.length) → Q .normal ⟨A', []⟩ w'): Code.wp Try.prog (unitC Try.f7) Q ⟨A, []⟩ wx := by
  have y0 : wx.cell? ⟨KB, 0, none⟩ = some (.int .i64 o.k) := (blk_cell HB 0).trans rfl
  have y1 : wx.cell? ⟨KB, 1, none⟩ = some (.int .i64 o.at_) := (blk_cell HB 1).trans rfl
  have y2 : wx.cell? ⟨KB, 2, none⟩ = some (.slice bA o.b.length bc) := (blk_cell HB 2).trans rfl
  have y3 : wx.cell? ⟨KB, 3, none⟩ = some (.slice kA o.keep.length kc) := (blk_cell HB 3).trans rfl
  have y4 : wx.cell? ⟨KB, 4, none⟩ = some (.int .i64 o.tear) := (blk_cell HB 4).trans rfl
  show Code.wp Try.prog (Code.seq _ _) Q ⟨A, []⟩ wx
  rw [HF.lit]
  have HS := Aside0.mk HS
  have HBB := Aside0.mk (And.intro HB hSB)
  have HQ := Aside0.mk hQ
  have HW := Aside0.mk (And.intro hwl (And.intro hst hfu))
  have hE : lastE M o = M.syE := by unfold lastE; rw [if_neg (by omega), if_neg (by omega), if_pos h2]
  have hM : lastM M o = M.sy := by unfold lastM; rw [if_neg (by omega), if_pos h2]
  rw [hM] at HL
  rw [hE, h2] at *
  have HL := Aside0.mk HL
  clear HF hQ HB hwl hst hfu hE hM
  go_wp2_with fail
  refine (st_sync HS.out (by have := HW.out; omega)).mono ?_
  rintro e w1 ⟨rfl, hs, hk⟩
  have HS1 := Aside0.mk hs
  have HL1 := Aside0.mk (HL.out.step hk (fun _ q => q) (fun k q => .inl q))
  have hwl := Aside0.mk (sy_wait (M := M))
  clear hs hk
  generalize M.syE = E at *
  go_wp2
  exact HQ.out _ _ _ _ _ _ _ _ _ _ _ _ ⟨rfl, rfl, rfl, rfl, rfl, rfl, rfl, rfl, rfl, rfl, rfl, rfl, rfl, rfl⟩ HS1.out HL1.out ⟨by have := hwl.out; omega, HW.out.2.1, HW.out.2.2, sy_now⟩
set_option maxRecDepth 100000 in
set_option maxHeartbeats 8000000 in
theorem do_fuse (HF : Fr A n vo g v6 v7 v8 fuse down steps k (.pointer (some ⟨KB, 0, none⟩)) v14 (.int .i64 (lastE M o))) (HS : St w wx g S M) (HL : LR w wx S v6 v7 v8 fuse down steps (lastM M o))
    (HB : wx.heap[KB]? = some (.cells #[.int .i64 o.k, .int .i64 o.at_, .slice bA o.b.length bc, .slice kA o.keep.length kc, .int .i64 o.tear] 36 (0, 0))) (hSB : ¬ S KB) (hwl : M.wait.length ≤ 50) (hst : 0 ≤ steps ∧ steps ≤ k + 1) (hfu : fuse ≤ 9223372036854775807) (h3 : o.k = 3) (hat : o.at_ ≤ 9223372036854775807)
    (Q : Exit → Act → World → Prop) (hQ : ∀ A' w' S' v6' v7' v8' f' d' s' M' v14' v15', Fr A' n vo g v6' v7' v8' f' d' s' k (.pointer (some ⟨KB, 0, none⟩)) v14' v15' → St w w' g S' M' → LR w w' S' v6' v7' v8' f' d' s' M' → (M'.wait.length ≤ M.wait.length + 1 ∧ (0 ≤ s' ∧ s' ≤ k + 1) ∧ f' ≤ 9223372036854775807 ∧ M'.now.length = M.now.length) → Q .normal ⟨A', []⟩ w'): Code.wp Try.prog (unitC Try.f7) Q ⟨A, []⟩ wx := by
  have y0 : wx.cell? ⟨KB, 0, none⟩ = some (.int .i64 o.k) := (blk_cell HB 0).trans rfl
  have y1 : wx.cell? ⟨KB, 1, none⟩ = some (.int .i64 o.at_) := (blk_cell HB 1).trans rfl
  have y2 : wx.cell? ⟨KB, 2, none⟩ = some (.slice bA o.b.length bc) := (blk_cell HB 2).trans rfl
  have y3 : wx.cell? ⟨KB, 3, none⟩ = some (.slice kA o.keep.length kc) := (blk_cell HB 3).trans rfl
  have y4 : wx.cell? ⟨KB, 4, none⟩ = some (.int .i64 o.tear) := (blk_cell HB 4).trans rfl
  show Code.wp Try.prog (Code.seq _ _) Q ⟨A, []⟩ wx
  rw [HF.lit]
  have HS := Aside0.mk HS
  have HBB := Aside0.mk (And.intro HB hSB)
  have HQ := Aside0.mk hQ
  have HW := Aside0.mk (And.intro hwl (And.intro hst hfu))
  have hM : lastM M o = M := by unfold lastM; rw [if_neg (by omega), if_neg (by omega)]
  rw [hM] at HL
  have HDD := Aside0.mk HL.d
  have HL := Aside0.mk HL
  generalize lastE M o = E at *
  rw [h3] at *
  clear HF hQ HB hwl hst hfu hM
  go_wp2_with fail
  refine (st_fuse HS.out o.at_ hat).mono ?_
  rintro e w1 ⟨rfl, hs, hk⟩
  have HS1 := Aside0.mk hs
  have HL1 := Aside0.mk (HL.out.step hk (fun _ q => q) (fun k q => .inl q))
  have y1b : w1.cell? ⟨KB, 1, none⟩ = some (.int .i64 o.at_) := by
    have h := (hk.block KB (blk_lt HBB.out.1) HBB.out.2).trans HBB.out.1
    exact (blk_cell h 1).trans rfl
  have hwl := Aside0.mk (show (M.setFuse o.at_).wait.length = M.wait.length by unfold DA.setFuse; split <;> rfl)
  clear hs hk y0 y1 y2 y3 y4
  cases down
  · have HL2 := Aside0.mk (HL1.out.setf HDD.out.symm o.at_)
    by_cases hn : o.at_ ≤ 0
    · have hl := HL2.out
      rw [if_pos hn] at hl
      have HL3 := Aside0.mk hl
      have hmx : (max o.at_ 0) = 0 := by omega
      clear hl HL2 HL1 HDD hmx
      go_wp2
      all_goals exact HQ.out _ _ _ _ _ _ _ _ _ _ _ _ ⟨rfl, rfl, rfl, rfl, rfl, rfl, rfl, (by first | rfl | exact congrArg (Value.int .i64) (by omega)), rfl, rfl, rfl, rfl, rfl, rfl⟩ HS1.out HL3.out ⟨by have := hwl.out; omega, HW.out.2.1, by omega, sf_now⟩
    · have hl := HL2.out
      rw [if_neg hn] at hl
      have HL3 := Aside0.mk hl
      have hmx : (max o.at_ 0) = o.at_ := by omega
      clear hl HL2 HL1 HDD hmx
      go_wp2
      all_goals exact HQ.out _ _ _ _ _ _ _ _ _ _ _ _ ⟨rfl, rfl, rfl, rfl, rfl, rfl, rfl, (by first | rfl | exact congrArg (Value.int .i64) (by omega)), rfl, rfl, rfl, rfl, rfl, rfl⟩ HS1.out HL3.out ⟨by have := hwl.out; omega, HW.out.2.1, by omega, sf_now⟩
  · have HL2 := Aside0.mk (HL1.out.setf1 HDD.out.symm o.at_)
    clear HL1 HDD
    go_wp2
    exact HQ.out _ _ _ _ _ _ _ _ _ _ _ _ ⟨rfl, rfl, rfl, rfl, rfl, rfl, rfl, rfl, rfl, rfl, rfl, rfl, rfl, rfl⟩ HS1.out HL2.out ⟨by have := hwl.out; omega, HW.out.2.1, HW.out.2.2, sf_now⟩
set_option maxRecDepth 100000 in
set_option maxHeartbeats 8000000 in
theorem do_off (HF : Fr A n vo g v6 v7 v8 fuse down steps k (.pointer (some ⟨KB, 0, none⟩)) v14 (.int .i64 (lastE M o))) (HS : St w wx g S M) (HL : LR w wx S v6 v7 v8 fuse down steps (lastM M o))
    (HB : wx.heap[KB]? = some (.cells #[.int .i64 o.k, .int .i64 o.at_, .slice bA o.b.length bc, .slice kA o.keep.length kc, .int .i64 o.tear] 36 (0, 0))) (hSB : ¬ S KB) (hwl : M.wait.length ≤ 50) (hst : 0 ≤ steps ∧ steps ≤ k + 1) (hfu : fuse ≤ 9223372036854775807) (h5 : o.k = 5)
    (Q : Exit → Act → World → Prop) (hQ : ∀ A' w' S' v6' v7' v8' f' d' s' M' v14' v15', Fr A' n vo g v6' v7' v8' f' d' s' k (.pointer (some ⟨KB, 0, none⟩)) v14' v15' → St w w' g S' M' → LR w w' S' v6' v7' v8' f' d' s' M' → (M'.wait.length ≤ M.wait.length + 1 ∧ (0 ≤ s' ∧ s' ≤ k + 1) ∧ f' ≤ 9223372036854775807 ∧ M'.now.length = M.now.length) → Q .normal ⟨A', []⟩ w'): Code.wp Try.prog (unitC Try.f7) Q ⟨A, []⟩ wx := by
  have y0 : wx.cell? ⟨KB, 0, none⟩ = some (.int .i64 o.k) := (blk_cell HB 0).trans rfl
  have y1 : wx.cell? ⟨KB, 1, none⟩ = some (.int .i64 o.at_) := (blk_cell HB 1).trans rfl
  have y2 : wx.cell? ⟨KB, 2, none⟩ = some (.slice bA o.b.length bc) := (blk_cell HB 2).trans rfl
  have y3 : wx.cell? ⟨KB, 3, none⟩ = some (.slice kA o.keep.length kc) := (blk_cell HB 3).trans rfl
  have y4 : wx.cell? ⟨KB, 4, none⟩ = some (.int .i64 o.tear) := (blk_cell HB 4).trans rfl
  show Code.wp Try.prog (Code.seq _ _) Q ⟨A, []⟩ wx
  rw [HF.lit]
  have HS := Aside0.mk HS
  have HBB := Aside0.mk (And.intro HB hSB)
  have HQ := Aside0.mk hQ
  have HW := Aside0.mk (And.intro hwl (And.intro hst hfu))
  have hM : lastM M o = M := by unfold lastM; rw [if_neg (by omega), if_neg (by omega)]
  rw [hM] at HL
  have HL := Aside0.mk HL
  generalize lastE M o = E at *
  rw [h5] at *
  clear HF hQ HB hwl hst hfu hM
  go_wp2_with fail
  refine (st_off HS.out).mono ?_
  rintro e w1 ⟨rfl, hs, hk⟩
  have HS1 := Aside0.mk hs
  have HL1 := Aside0.mk (HL.out.step hk (fun _ q => q) (fun k q => .inl q)).off
  clear hs hk
  go_wp2
  exact HQ.out _ _ _ _ _ _ _ _ _ _ _ _ ⟨rfl, rfl, rfl, rfl, rfl, rfl, rfl, rfl, rfl, rfl, rfl, rfl, rfl, rfl⟩ HS1.out HL1.out ⟨Nat.le_succ _, HW.out.2.1, HW.out.2.2, rfl⟩
set_option maxRecDepth 100000 in
set_option maxHeartbeats 8000000 in
theorem do_none (HF : Fr A n vo g v6 v7 v8 fuse down steps k (.pointer (some ⟨KB, 0, none⟩)) v14 (.int .i64 (lastE M o))) (HS : St w wx g S M) (HL : LR w wx S v6 v7 v8 fuse down steps (lastM M o))
    (HB : wx.heap[KB]? = some (.cells #[.int .i64 o.k, .int .i64 o.at_, .slice bA o.b.length bc, .slice kA o.keep.length kc, .int .i64 o.tear] 36 (0, 0))) (hSB : ¬ S KB) (hwl : M.wait.length ≤ 50) (hst : 0 ≤ steps ∧ steps ≤ k + 1) (hfu : fuse ≤ 9223372036854775807) (h0 : o.k ≠ 0 ∧ o.k ≠ 1 ∧ o.k ≠ 2 ∧ o.k ≠ 3 ∧ o.k ≠ 4 ∧ o.k ≠ 5)
    (Q : Exit → Act → World → Prop) (hQ : ∀ A' w' S' v6' v7' v8' f' d' s' M' v14' v15', Fr A' n vo g v6' v7' v8' f' d' s' k (.pointer (some ⟨KB, 0, none⟩)) v14' v15' → St w w' g S' M' → LR w w' S' v6' v7' v8' f' d' s' M' → (M'.wait.length ≤ M.wait.length + 1 ∧ (0 ≤ s' ∧ s' ≤ k + 1) ∧ f' ≤ 9223372036854775807 ∧ M'.now.length = M.now.length) → Q .normal ⟨A', []⟩ w'): Code.wp Try.prog (unitC Try.f7) Q ⟨A, []⟩ wx := by
  have y0 : wx.cell? ⟨KB, 0, none⟩ = some (.int .i64 o.k) := (blk_cell HB 0).trans rfl
  have y1 : wx.cell? ⟨KB, 1, none⟩ = some (.int .i64 o.at_) := (blk_cell HB 1).trans rfl
  have y2 : wx.cell? ⟨KB, 2, none⟩ = some (.slice bA o.b.length bc) := (blk_cell HB 2).trans rfl
  have y3 : wx.cell? ⟨KB, 3, none⟩ = some (.slice kA o.keep.length kc) := (blk_cell HB 3).trans rfl
  have y4 : wx.cell? ⟨KB, 4, none⟩ = some (.int .i64 o.tear) := (blk_cell HB 4).trans rfl
  show Code.wp Try.prog (Code.seq _ _) Q ⟨A, []⟩ wx
  rw [HF.lit]
  have HS := Aside0.mk HS
  have HBB := Aside0.mk (And.intro HB hSB)
  have HQ := Aside0.mk hQ
  have HW := Aside0.mk (And.intro hwl (And.intro hst hfu))
  have hM : lastM M o = M := by unfold lastM; rw [if_neg (by omega), if_neg (by omega)]
  rw [hM] at HL
  have HL := Aside0.mk HL
  generalize lastE M o = E at *
  have b0 : (o.k == 0) = false := beq_eq_false_iff_ne.2 (by omega)
  have b1 : (o.k == 1) = false := beq_eq_false_iff_ne.2 (by omega)
  have b2 : (o.k == 2) = false := beq_eq_false_iff_ne.2 (by omega)
  have b3 : (o.k == 3) = false := beq_eq_false_iff_ne.2 (by omega)
  have b4 : (o.k == 4) = false := beq_eq_false_iff_ne.2 (by omega)
  have b5 : (o.k == 5) = false := beq_eq_false_iff_ne.2 (by omega)
  clear HF hQ HB hwl hst hfu hM h0
  go_wp2
  exact HQ.out _ _ _ _ _ _ _ _ _ _ _ _ ⟨rfl, rfl, rfl, rfl, rfl, rfl, rfl, rfl, rfl, rfl, rfl, rfl, rfl, rfl⟩ HS.out HL.out ⟨Nat.le_succ _, HW.out.2.1, HW.out.2.2, rfl⟩
end
end DiskRuns
end Go.Proofs.Ytihmfccpgahmaaa.Dk
