/- disk.Sync, walked. -/
import Derived.Test.YtihmfccpgahmaaaDkWrite
namespace Go.Proofs.Ytihmfccpgahmaaa.Dk
open Go Go.RowKit Go.Proofs.YtihmfccpgahmaaaW.PrintWords Go.Proofs.YtihmfccpgahmaaaW.PrintMore Go.Proofs.YtihmfccpgahmaaaW.PrintLast
set_option linter.unusedVariables false
set_option linter.unusedSimpArgs false

/-- What waits is laid, one by one. -/
def putW (D : DkS) (x : Wt) : DkS := { D with safe := D.safe.set x.at_.toNat x.s, bad := D.bad.set x.at_.toNat false }
def synK (D : DkS) (k : Nat) : DkS := (D.wait.take k).foldl putW D

theorem putW_wait (D : DkS) (x : Wt) : (putW D x).wait = D.wait := rfl
theorem putW_now (D : DkS) (x : Wt) : (putW D x).now = D.now := rfl
theorem fold_wait (l : List Wt) : ∀ D : DkS, (l.foldl putW D).wait = D.wait ∧ (l.foldl putW D).now = D.now ∧ (l.foldl putW D).torn = D.torn ∧ (l.foldl putW D).fuse = D.fuse ∧ (l.foldl putW D).down = D.down ∧ (l.foldl putW D).work = D.work := by
  induction l with
  | nil => intro D; exact ⟨rfl, rfl, rfl, rfl, rfl, rfl⟩
  | cons x l ih => intro D; exact ih (putW D x)
theorem synK_succ (D : DkS) (k : Nat) (h : k < D.wait.length) : synK D (k + 1) = putW (synK D k) D.wait[k] := by
  unfold synK
  rw [List.take_succ_eq_append_getElem h, List.foldl_append]
  rfl

section
variable {w : World} {base g : Nat} {S : Nat → Prop} {D : DkS} {r : Rws}
theorem sync_down (h : IsD w base g S D r) (hd : D.down = true) : Calls Try.prog 21 #[.pointer (some ⟨g, 0, none⟩)] w fun e w' => e = .returned (.int .i64 8) ∧ w' = w := by
  have c6 : w.cell? ⟨g, 6, none⟩ = some (.bool true) := (blk_cell h.blk 6).trans (by rw [hd]; rfl)
  clear h
  go_enter Try.func21, Try.ntmps21
  go_wp2
  go_ret
  exact ⟨rfl, rfl⟩

theorem sync_goes (h : IsD w base g S D r) (hd : D.down = false) (hs : stepE D ≠ 0) : Calls Try.prog 21 #[.pointer (some ⟨g, 0, none⟩)] w fun e w' => e = .returned (.int .i64 (stepE D)) ∧ IsD w' base g S (stepD D) r ∧ Kept w w' S ∧ w'.heap.size = w.heap.size := by
  have c6 : w.cell? ⟨g, 6, none⟩ = some (.bool false) := (blk_cell h.blk 6).trans (by rw [hd]; rfl)
  have hS := Aside0.mk (step_ok h)
  have t1 : (stepE D != 0) = true := by simpa using hs
  clear h hd hs
  go_enter Try.func21, Try.ntmps21
  go_wp2_with fail
  refine hS.out.mono ?_
  rintro e w1 ⟨rfl, hi1, hk1, hz1⟩
  have HI := Aside0.mk hi1
  have HK := Aside0.mk hk1
  have HZ := Aside0.mk hz1
  clear hi1 hk1 hz1 hS c6
  go_wp2
  go_ret
  exact ⟨rfl, HI.out, HK.out, HZ.out⟩
end
end Go.Proofs.Ytihmfccpgahmaaa.Dk
